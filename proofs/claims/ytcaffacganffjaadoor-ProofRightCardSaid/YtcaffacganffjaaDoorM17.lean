/- The walks of a part of the program: GDig2. Printed by a program of the prover. The walks of a part of the program: GTop. Printed by a program of the prover. The walks of a part of the program: GRoot. Printed by a program of the prover. -/
import Derived.Test.YtcaffacganffjaaDoorM2
import Derived.Test.YtcaffacganffjaaDoorM6
import Derived.Test.YtcaffacganffjaaDoorM16
import Derived.Test.YtcaffacganffjaaDoorM4

section
namespace Go.Proofs.YtcaffacganffjaaDoor
open Go Go.Vg


set_option maxRecDepth 100000 in
set_option maxHeartbeats 4000000 in
theorem dig_leaf (b : Nat) (w : Int) (l : Leaf) (w0 : World) (hK : KeysAt w0) (h0 : 0 ∉ (keys [(KT.leaf b l).ents 98])) (hL0 : Vg.Loc (keys [(KT.leaf b l).ents 98]) w0 w0 [(KT.leaf b l).ents 98]) :
    Calls Tryd.prog 33 #[(vp b 0), (vI w)] w0 fun e w' => e = .returned (dv (leafD w l)) ∧ Vg.Loc (keys [(KT.leaf b l).ents 98]) w0 w' [] := by
  refine c_enter (n := 20) (args := [(vp b 0), (vI w)]) Tryd.func33 rfl rfl (Nat.le_of_ble_eq_true rfl) rfl (fun a hT => ?_)
  simp only [List.zipIdx_cons, List.zipIdx_nil, List.map_cons, List.map_nil, Nat.reduceAdd] at hT
  have hL : Vg.Loc (keys [(KT.leaf b l).ents 98]) w0 w0 [[(b, ob ([(v32 0), (Value.int .i32 0), (v32 0)] ++ (digC Dig.zero ++ (digC l.p ++ (digC l.v ++ ([(Value.pointer none), (Value.pointer none)]))))) 98)]] := hL0.regroup (by simp [KT.ents, knotC, noLeaf, KT.ad])
  refine c_seq ?_
  refine c_region ?_
  refine l_do rfl ?_
  refine w_box hT hL (by decide) rfl (c := [(vp b 0)]) rfl ?_; clear hT hL; intro b1 a w1 hT hL hE hB
  refine l_do rfl ?_
  refine w_box hT hL (by decide) rfl (c := [(vI w)]) rfl ?_; clear hT hL; intro b2 a w2 hT hL hE hB
  refine l_do rfl ?_
  refine w_alloc hT hL (by decide) Tryd.ty24 ?_; clear hT hL; intro b3 a w3 hT hL hE hB
  refine l_end ?_
  refine then_norm ?_
  refine c_seq ?_
  refine c_seq ?_
  refine c_region ?_
  refine l_q hT (q_load hT rfl Tryd.ty63 (hL.rd 2 rfl 0 (ds := [(vp b 0)]) rfl)) rfl rfl (by decide) ?_; clear hT; intro a hT
  refine l_q hT ((q_eq_nil hT rfl rfl Tryd.underlying63).b (b := false) rfl) rfl rfl (by decide) ?_; clear hT; intro a hT
  refine l_end ?_
  refine then_norm ?_
  refine c_false hT rfl rfl ?_
  refine wp_skip ?_
  refine then_norm ?_
  refine c_seq ?_
  refine c_region ?_
  refine l_q hT (q_load hT rfl Tryd.ty63 (hL.rd 2 rfl 0 (ds := [(vp b 0)]) rfl)) rfl rfl (by decide) ?_; clear hT; intro a hT
  refine l_q hT (q_nilCheck hT rfl) rfl rfl (by decide) ?_; clear hT; intro a hT
  refine l_q hT (q_fieldAddr hT rfl Tryd.fld98_0 rfl) rfl rfl (by decide) ?_; clear hT; intro a hT
  refine l_q hT (q_fieldAddr hT rfl Tryd.fld96_0 rfl) rfl rfl (by decide) ?_; clear hT; intro a hT
  refine l_q hT (q_makeFunc (fs := []) (cs := [.tmp 2, .tmp 3]) hT rfl rfl) rfl rfl (by decide) ?_; clear hT; intro a hT
  refine l_do rfl ?_
  replace hL : Vg.Loc (keys [(KT.leaf b l).ents 98]) w0 w3 ([[(b2, ob [(vI w)] 3)], [(b3, ob (digC Dig.zero) 24)], [(b1, ob [(vp b 0)] 63)], [(b, ob ([(v32 0), (Value.int .i32 0), (v32 0)] ++ (digC Dig.zero ++ (digC l.p ++ (digC l.v ++ ([(Value.pointer none), (Value.pointer none)]))))) 98)]]) := hL.front 1 rfl rfl
  replace hL : Vg.Loc (keys [(KT.leaf b l).ents 98]) w0 w3 ([[(b1, ob [(vp b 0)] 63)], [(b2, ob [(vI w)] 3)], [(b3, ob (digC Dig.zero) 24)], [(b, ob ([(v32 0), (Value.int .i32 0), (v32 0)] ++ (digC Dig.zero ++ (digC l.p ++ (digC l.v ++ ([(Value.pointer none), (Value.pointer none)]))))) 98)]]) := hL.front 2 rfl rfl
  replace hL : Vg.Loc (keys [(KT.leaf b l).ents 98]) w0 w3 ([[(b, ob ([(v32 0), (Value.int .i32 0), (v32 0)] ++ (digC Dig.zero ++ (digC l.p ++ (digC l.v ++ ([(Value.pointer none), (Value.pointer none)]))))) 98)], [(b1, ob [(vp b 0)] 63)], [(b2, ob [(vI w)] 3)], [(b3, ob (digC Dig.zero) 24)]]) := hL.front 3 rfl rfl
  refine w_callT (xs := [.tmp 12, .tmp 13]) hT rfl (vs := [(vp b 0), (Value.func (Fn.func 48) #[] #[(vp b1 0), (vp b2 0)])]) rfl (args := #[(vp b 0), (Value.func (Fn.func 48) #[] #[(vp b1 0), (vp b2 0)])]) rfl Tryd.func47 rfl rfl (by decide) ((Do_spec b b1 b2 (leafD w l) l none none [[(b1, ob [(vp b 0)] 63)], [(b2, ob [(vI w)] 3)]] [[(b1, ob [(vp b 0)] 63)], [(b2, ob [(vI w)] 3)]] _ (Vg.Loc.self (cs := [[(b, ob ([(v32 0), (Value.int .i32 0), (v32 0)] ++ (digC Dig.zero ++ (digC l.p ++ (digC l.v ++ ([(Value.pointer none), (Value.pointer none)]))))) 98)], [(b1, ob [(vp b 0)] 63)], [(b2, ob [(vI w)] 3)]]) hL) (fun w1 h1 => clo_leaf b b1 b2 w l w1 (KeysAt.of (KeysAt.of hK hL h0) h1 (hL.zero_app (ci := [[(b, ob ([(v32 0), (Value.int .i32 0), (v32 0)] ++ (digC Dig.zero ++ (digC l.p ++ (digC l.v ++ ([(Value.pointer none), (Value.pointer none)]))))) 98)], [(b1, ob [(vp b 0)] 63)], [(b2, ob [(vI w)] 3)]]) hK.lt h0)) (hL.zero_app (ci := [[(b, ob ([(v32 0), (Value.int .i32 0), (v32 0)] ++ (digC Dig.zero ++ (digC l.p ++ (digC l.v ++ ([(Value.pointer none), (Value.pointer none)]))))) 98)], [(b1, ob [(vp b 0)] 63)], [(b2, ob [(vI w)] 3)]]) hK.lt h0) (Vg.Loc.self_all h1))).mono ?_)
  rintro e w4 ⟨rfl, hX⟩
  refine ⟨_, rfl, ?_⟩; clear hT; intro a hT; replace hT : Tm 20 a ((14, (Value.tuple #[])) :: _) := hT
  replace hL : Vg.Loc (keys [(KT.leaf b l).ents 98]) w0 w4 ([[(b, ob ([(v32 1), (Value.int .i32 0), (v32 0)] ++ (digC (leafD w l) ++ (digC l.p ++ (digC l.v ++ ([(Value.pointer none), (Value.pointer none)]))))) 98)], [(b1, ob [(vp b 0)] 63)], [(b2, ob [(vI w)] 3)], [(b3, ob (digC Dig.zero) 24)]]) := Vg.Loc.call (ci := [[(b, ob ([(v32 0), (Value.int .i32 0), (v32 0)] ++ (digC Dig.zero ++ (digC l.p ++ (digC l.v ++ ([(Value.pointer none), (Value.pointer none)]))))) 98)], [(b1, ob [(vp b 0)] 63)], [(b2, ob [(vI w)] 3)]]) (cr := [[(b3, ob (digC Dig.zero) 24)]]) hL hX
  refine l_end ?_
  refine then_norm ?_
  refine c_seq ?_
  refine c_region ?_
  refine l_q hT (q_load hT rfl Tryd.ty63 (hL.rd 1 rfl 0 (ds := [(vp b 0)]) rfl)) rfl rfl (by decide) ?_; clear hT; intro a hT
  refine l_q hT (q_nilCheck hT rfl) rfl rfl (by decide) ?_; clear hT; intro a hT
  refine l_q hT (q_fieldAddr hT rfl Tryd.fld98_0 rfl) rfl rfl (by decide) ?_; clear hT; intro a hT
  refine l_q hT (q_fieldAddr hT rfl Tryd.fld96_1 rfl) rfl rfl (by decide) ?_; clear hT; intro a hT
  refine l_q hT (q_load_agg hT rfl Tryd.ty24 (hL.rd 0 rfl 3 (ds := digC (leafD w l)) rfl) rfl) rfl rfl (by decide) ?_; clear hT; intro a hT
  refine l_do rfl ?_
  refine w_store hT hL 3 (c := digC Dig.zero) rfl rfl Tryd.ty24 rfl (vs := digC (leafD w l)) rfl rfl (by first | decide | (simp [arr32_len, arr8_len, digC_len]; done) | (simp [arr32_len, arr8_len, digC_len]; omega)) rfl (c' := digC (leafD w l)) rfl ?_; clear hL; intro w5 hL hE
  replace hL : Vg.Loc (keys [(KT.leaf b l).ents 98]) w0 w5 ([[(b, ob ([(v32 1), (Value.int .i32 0), (v32 0)] ++ (digC (leafD w l) ++ (digC l.p ++ (digC l.v ++ ([(Value.pointer none), (Value.pointer none)]))))) 98)], [(b1, ob [(vp b 0)] 63)], [(b2, ob [(vI w)] 3)], [(b3, ob (digC (leafD w l)) 24)]]) := hL
  refine l_end ?_
  refine then_norm ?_
  refine wp_ret ?_
  refine c_ret (vs := [(Value.agg (digC (leafD w l)).toArray)]) (rs := [.cell 4 24]) hT rfl (.agg rfl Tryd.ty24 (hL.rd 3 rfl 0 (ds := digC (leafD w l)) rfl) rfl .nil) ?_
  exact ⟨rfl, hL.drop⟩

set_option maxRecDepth 100000 in
set_option maxHeartbeats 4000000 in
theorem dig_node (b : Nat) (w : Int) (x y : KT) (hsome : (x.ad.isSome || y.ad.isSome) = true) (ihx : DigAt Tryd.prog 33 98 x w) (ihy : DigAt Tryd.prog 33 98 y w) (w0 : World) (hK : KeysAt w0) (h0 : 0 ∉ (keys [(KT.node b x y).ents 98])) (hL0 : Vg.Loc (keys [(KT.node b x y).ents 98]) w0 w0 [(KT.node b x y).ents 98]) :
    Calls Tryd.prog 33 #[(vp b 0), (vI w)] w0 fun e w' => e = .returned (dv (nodeD w (x.dig w) (y.dig w))) ∧ Vg.Loc (keys [(KT.node b x y).ents 98]) w0 w' [] := by
  refine c_enter (n := 20) (args := [(vp b 0), (vI w)]) Tryd.func33 rfl rfl (Nat.le_of_ble_eq_true rfl) rfl (fun a hT => ?_)
  simp only [List.zipIdx_cons, List.zipIdx_nil, List.map_cons, List.map_nil, Nat.reduceAdd] at hT
  have hL : Vg.Loc (keys [(KT.node b x y).ents 98]) w0 w0 [[(b, ob ([(v32 0), (Value.int .i32 0), (v32 0)] ++ (digC Dig.zero ++ (digC noLeaf.p ++ (digC noLeaf.v ++ ([(Value.pointer x.ad), (Value.pointer y.ad)]))))) 98)], (x.ents 98), (y.ents 98)] := hL0.regroup (by simp [KT.ents, knotC, noLeaf, KT.ad])
  refine c_seq ?_
  refine c_region ?_
  refine l_do rfl ?_
  refine w_box hT hL (by decide) rfl (c := [(vp b 0)]) rfl ?_; clear hT hL; intro b1 a w1 hT hL hE hB
  refine l_do rfl ?_
  refine w_box hT hL (by decide) rfl (c := [(vI w)]) rfl ?_; clear hT hL; intro b2 a w2 hT hL hE hB
  refine l_do rfl ?_
  refine w_alloc hT hL (by decide) Tryd.ty24 ?_; clear hT hL; intro b3 a w3 hT hL hE hB
  refine l_end ?_
  refine then_norm ?_
  refine c_seq ?_
  refine c_seq ?_
  refine c_region ?_
  refine l_q hT (q_load hT rfl Tryd.ty63 (hL.rd 2 rfl 0 (ds := [(vp b 0)]) rfl)) rfl rfl (by decide) ?_; clear hT; intro a hT
  refine l_q hT ((q_eq_nil hT rfl rfl Tryd.underlying63).b (b := false) rfl) rfl rfl (by decide) ?_; clear hT; intro a hT
  refine l_end ?_
  refine then_norm ?_
  refine c_false hT rfl rfl ?_
  refine wp_skip ?_
  refine then_norm ?_
  refine c_seq ?_
  refine c_region ?_
  refine l_q hT (q_load hT rfl Tryd.ty63 (hL.rd 2 rfl 0 (ds := [(vp b 0)]) rfl)) rfl rfl (by decide) ?_; clear hT; intro a hT
  refine l_q hT (q_nilCheck hT rfl) rfl rfl (by decide) ?_; clear hT; intro a hT
  refine l_q hT (q_fieldAddr hT rfl Tryd.fld98_0 rfl) rfl rfl (by decide) ?_; clear hT; intro a hT
  refine l_q hT (q_fieldAddr hT rfl Tryd.fld96_0 rfl) rfl rfl (by decide) ?_; clear hT; intro a hT
  refine l_q hT (q_makeFunc (fs := []) (cs := [.tmp 2, .tmp 3]) hT rfl rfl) rfl rfl (by decide) ?_; clear hT; intro a hT
  refine l_do rfl ?_
  replace hL : Vg.Loc (keys [(KT.node b x y).ents 98]) w0 w3 ([[(b2, ob [(vI w)] 3)], [(b3, ob (digC Dig.zero) 24)], [(b1, ob [(vp b 0)] 63)], [(b, ob ([(v32 0), (Value.int .i32 0), (v32 0)] ++ (digC Dig.zero ++ (digC noLeaf.p ++ (digC noLeaf.v ++ ([(Value.pointer x.ad), (Value.pointer y.ad)]))))) 98)], (x.ents 98), (y.ents 98)]) := hL.front 1 rfl rfl
  replace hL : Vg.Loc (keys [(KT.node b x y).ents 98]) w0 w3 ([[(b1, ob [(vp b 0)] 63)], [(b2, ob [(vI w)] 3)], [(b3, ob (digC Dig.zero) 24)], [(b, ob ([(v32 0), (Value.int .i32 0), (v32 0)] ++ (digC Dig.zero ++ (digC noLeaf.p ++ (digC noLeaf.v ++ ([(Value.pointer x.ad), (Value.pointer y.ad)]))))) 98)], (x.ents 98), (y.ents 98)]) := hL.front 2 rfl rfl
  replace hL : Vg.Loc (keys [(KT.node b x y).ents 98]) w0 w3 ([(y.ents 98), [(b1, ob [(vp b 0)] 63)], [(b2, ob [(vI w)] 3)], [(b3, ob (digC Dig.zero) 24)], [(b, ob ([(v32 0), (Value.int .i32 0), (v32 0)] ++ (digC Dig.zero ++ (digC noLeaf.p ++ (digC noLeaf.v ++ ([(Value.pointer x.ad), (Value.pointer y.ad)]))))) 98)], (x.ents 98)]) := hL.front 5 rfl rfl
  replace hL : Vg.Loc (keys [(KT.node b x y).ents 98]) w0 w3 ([(x.ents 98), (y.ents 98), [(b1, ob [(vp b 0)] 63)], [(b2, ob [(vI w)] 3)], [(b3, ob (digC Dig.zero) 24)], [(b, ob ([(v32 0), (Value.int .i32 0), (v32 0)] ++ (digC Dig.zero ++ (digC noLeaf.p ++ (digC noLeaf.v ++ ([(Value.pointer x.ad), (Value.pointer y.ad)]))))) 98)]]) := hL.front 5 rfl rfl
  replace hL : Vg.Loc (keys [(KT.node b x y).ents 98]) w0 w3 ([[(b, ob ([(v32 0), (Value.int .i32 0), (v32 0)] ++ (digC Dig.zero ++ (digC noLeaf.p ++ (digC noLeaf.v ++ ([(Value.pointer x.ad), (Value.pointer y.ad)]))))) 98)], (x.ents 98), (y.ents 98), [(b1, ob [(vp b 0)] 63)], [(b2, ob [(vI w)] 3)], [(b3, ob (digC Dig.zero) 24)]]) := hL.front 5 rfl rfl
  refine w_callT (xs := [.tmp 12, .tmp 13]) hT rfl (vs := [(vp b 0), (Value.func (Fn.func 48) #[] #[(vp b1 0), (vp b2 0)])]) rfl (args := #[(vp b 0), (Value.func (Fn.func 48) #[] #[(vp b1 0), (vp b2 0)])]) rfl Tryd.func47 rfl rfl (by decide) ((Do_spec b b1 b2 (nodeD w (x.dig w) (y.dig w)) noLeaf x.ad y.ad [(x.ents 98), (y.ents 98), [(b1, ob [(vp b 0)] 63)], [(b2, ob [(vI w)] 3)]] [[(b1, ob [(vp b 0)] 63)], [(b2, ob [(vI w)] 3)]] _ (Vg.Loc.self (cs := [[(b, ob ([(v32 0), (Value.int .i32 0), (v32 0)] ++ (digC Dig.zero ++ (digC noLeaf.p ++ (digC noLeaf.v ++ ([(Value.pointer x.ad), (Value.pointer y.ad)]))))) 98)], (x.ents 98), (y.ents 98), [(b1, ob [(vp b 0)] 63)], [(b2, ob [(vI w)] 3)]]) hL) (fun w1 h1 => clo_node b b1 b2 w x y hsome ihx ihy w1 (KeysAt.of (KeysAt.of hK hL h0) h1 (hL.zero_app (ci := [[(b, ob ([(v32 0), (Value.int .i32 0), (v32 0)] ++ (digC Dig.zero ++ (digC noLeaf.p ++ (digC noLeaf.v ++ ([(Value.pointer x.ad), (Value.pointer y.ad)]))))) 98)], (x.ents 98), (y.ents 98), [(b1, ob [(vp b 0)] 63)], [(b2, ob [(vI w)] 3)]]) hK.lt h0)) (hL.zero_app (ci := [[(b, ob ([(v32 0), (Value.int .i32 0), (v32 0)] ++ (digC Dig.zero ++ (digC noLeaf.p ++ (digC noLeaf.v ++ ([(Value.pointer x.ad), (Value.pointer y.ad)]))))) 98)], (x.ents 98), (y.ents 98), [(b1, ob [(vp b 0)] 63)], [(b2, ob [(vI w)] 3)]]) hK.lt h0) (Vg.Loc.self_all h1))).mono ?_)
  rintro e w4 ⟨rfl, hX⟩
  refine ⟨_, rfl, ?_⟩; clear hT; intro a hT; replace hT : Tm 20 a ((14, (Value.tuple #[])) :: _) := hT
  replace hL : Vg.Loc (keys [(KT.node b x y).ents 98]) w0 w4 ([[(b, ob ([(v32 1), (Value.int .i32 0), (v32 0)] ++ (digC (nodeD w (x.dig w) (y.dig w)) ++ (digC noLeaf.p ++ (digC noLeaf.v ++ ([(Value.pointer x.ad), (Value.pointer y.ad)]))))) 98)], [(b1, ob [(vp b 0)] 63)], [(b2, ob [(vI w)] 3)], [(b3, ob (digC Dig.zero) 24)]]) := Vg.Loc.call (ci := [[(b, ob ([(v32 0), (Value.int .i32 0), (v32 0)] ++ (digC Dig.zero ++ (digC noLeaf.p ++ (digC noLeaf.v ++ ([(Value.pointer x.ad), (Value.pointer y.ad)]))))) 98)], (x.ents 98), (y.ents 98), [(b1, ob [(vp b 0)] 63)], [(b2, ob [(vI w)] 3)]]) (cr := [[(b3, ob (digC Dig.zero) 24)]]) hL hX
  refine l_end ?_
  refine then_norm ?_
  refine c_seq ?_
  refine c_region ?_
  refine l_q hT (q_load hT rfl Tryd.ty63 (hL.rd 1 rfl 0 (ds := [(vp b 0)]) rfl)) rfl rfl (by decide) ?_; clear hT; intro a hT
  refine l_q hT (q_nilCheck hT rfl) rfl rfl (by decide) ?_; clear hT; intro a hT
  refine l_q hT (q_fieldAddr hT rfl Tryd.fld98_0 rfl) rfl rfl (by decide) ?_; clear hT; intro a hT
  refine l_q hT (q_fieldAddr hT rfl Tryd.fld96_1 rfl) rfl rfl (by decide) ?_; clear hT; intro a hT
  refine l_q hT (q_load_agg hT rfl Tryd.ty24 (hL.rd 0 rfl 3 (ds := digC (nodeD w (x.dig w) (y.dig w))) rfl) rfl) rfl rfl (by decide) ?_; clear hT; intro a hT
  refine l_do rfl ?_
  refine w_store hT hL 3 (c := digC Dig.zero) rfl rfl Tryd.ty24 rfl (vs := digC (nodeD w (x.dig w) (y.dig w))) rfl rfl (by first | decide | (simp [arr32_len, arr8_len, digC_len]; done) | (simp [arr32_len, arr8_len, digC_len]; omega)) rfl (c' := digC (nodeD w (x.dig w) (y.dig w))) rfl ?_; clear hL; intro w5 hL hE
  replace hL : Vg.Loc (keys [(KT.node b x y).ents 98]) w0 w5 ([[(b, ob ([(v32 1), (Value.int .i32 0), (v32 0)] ++ (digC (nodeD w (x.dig w) (y.dig w)) ++ (digC noLeaf.p ++ (digC noLeaf.v ++ ([(Value.pointer x.ad), (Value.pointer y.ad)]))))) 98)], [(b1, ob [(vp b 0)] 63)], [(b2, ob [(vI w)] 3)], [(b3, ob (digC (nodeD w (x.dig w) (y.dig w))) 24)]]) := hL
  refine l_end ?_
  refine then_norm ?_
  refine wp_ret ?_
  refine c_ret (vs := [(Value.agg (digC (nodeD w (x.dig w) (y.dig w))).toArray)]) (rs := [.cell 4 24]) hT rfl (.agg rfl Tryd.ty24 (hL.rd 3 rfl 0 (ds := digC (nodeD w (x.dig w) (y.dig w))) rfl) rfl .nil) ?_
  exact ⟨rfl, hL.drop⟩

set_option maxRecDepth 20000 in
set_option maxHeartbeats 1000000 in
theorem dig_nil (w : Int) (w0 : World) (hK : KeysAt w0) :
    Calls Tryd.prog 33 #[(Value.pointer none), (vI w)] w0 fun e w' => e = .returned (dv (emptyD w)) ∧ Ext w0 w' := by
  refine c_enter (n := 20) (args := [(Value.pointer none), (vI w)]) Tryd.func33 rfl rfl (Nat.le_of_ble_eq_true rfl) rfl (fun a hT => ?_)
  simp only [List.zipIdx_cons, List.zipIdx_nil, List.map_cons, List.map_nil, Nat.reduceAdd] at hT
  have hL := Vg.Loc.refl [] w0
  refine c_seq ?_
  refine c_region ?_
  refine l_do rfl ?_
  refine w_box hT hL (by decide) rfl (c := [(Value.pointer none)]) rfl ?_; clear hT hL; intro b1 a w1 hT hL hE hB
  refine l_do rfl ?_
  refine w_box hT hL (by decide) rfl (c := [(vI w)]) rfl ?_; clear hT hL; intro b2 a w2 hT hL hE hB
  refine l_do rfl ?_
  refine w_alloc hT hL (by decide) Tryd.ty24 ?_; clear hT hL; intro b3 a w3 hT hL hE hB
  refine l_end ?_
  refine then_norm ?_
  refine c_seq ?_
  refine c_seq ?_
  refine c_region ?_
  refine l_q hT (q_load hT rfl Tryd.ty63 (hL.rd 2 rfl 0 (ds := [(Value.pointer none)]) rfl)) rfl rfl (by decide) ?_; clear hT; intro a hT
  refine l_q hT ((q_eq_nil hT rfl rfl Tryd.underlying63).b (b := true) rfl) rfl rfl (by decide) ?_; clear hT; intro a hT
  refine l_end ?_
  refine then_norm ?_
  refine c_true hT rfl rfl ?_
  refine c_seq ?_
  refine c_region ?_
  refine l_q hT (q_load hT rfl Tryd.ty3 (hL.rd 1 rfl 0 (ds := [(vI w)]) rfl)) rfl rfl (by decide) ?_; clear hT; intro a hT
  refine l_do rfl ?_
  refine w_callT (xs := [.tmp 7]) hT rfl (vs := [(vI w)]) rfl (args := #[(vI w)]) rfl Tryd.func21 rfl rfl (by decide) ((Empty_spec (w) _ (hK.of hL (by simp))).mono ?_)
  rintro e w4 ⟨rfl, hX⟩
  refine ⟨_, rfl, ?_⟩; clear hT; intro a hT; replace hT : Tm 20 a ((8, (Value.agg (digC (emptyD w)).toArray)) :: _) := hT
  replace hL := hL.ext hX
  refine l_do rfl ?_
  refine w_store hT hL 0 (c := digC Dig.zero) rfl rfl Tryd.ty24 rfl (vs := digC (emptyD w)) rfl rfl (by first | decide | (simp [arr32_len, arr8_len, digC_len]; done) | (simp [arr32_len, arr8_len, digC_len]; omega)) rfl (c' := digC (emptyD w)) rfl ?_; clear hL; intro w5 hL hE
  replace hL : Vg.Loc [] w0 w5 ([[(b3, ob (digC (emptyD w)) 24)], [(b2, ob [(vI w)] 3)], [(b1, ob [(Value.pointer none)] 63)]]) := hL
  refine l_end ?_
  refine then_norm ?_
  refine wp_ret ?_
  refine then_ret ?_
  refine c_ret (vs := [(Value.agg (digC (emptyD w)).toArray)]) (rs := [.cell 4 24]) hT rfl (.agg rfl Tryd.ty24 (hL.rd 0 rfl 0 (ds := digC (emptyD w)) rfl) rfl .nil) ?_
  exact ⟨rfl, hL.drop⟩

theorem dig_ok (w : Int) : ∀ (t : KT) (S : List Leaf) (n : Nat), Rep t S n → DigAt Tryd.prog 33 98 t w
  | .nil, _, _, _ => fun w0 hK h0 hL => (dig_nil w w0 hK).mono fun e w' ⟨h1, h2⟩ => ⟨h1, Vg.Loc.call_all hL (Vg.Loc.mono_ext h2)⟩
  | .leaf b l, _, _, _ => fun w0 hK h0 hL => dig_leaf b w l w0 hK h0 hL
  | .node b x y, _, _, hr => fun w0 hK h0 hL => dig_node b w x y hr.some (dig_ok w x _ _ hr.2.1) (dig_ok w y _ _ hr.2.2) w0 hK h0 hL

end Go.Proofs.YtcaffacganffjaaDoor
end

section
namespace Go.Proofs.YtcaffacganffjaaDoor
open Go Go.Vg


set_option maxRecDepth 20000 in
set_option maxHeartbeats 1000000 in
theorem Get_none (b : Nat) (w n : Int) (d : Dig) (w0 : World) (hb : Rd w0 b 0 [vI w, vI n, .pointer none]) :
    Calls Tryd.prog 31 #[(vp b 0), (Value.agg (digC d).toArray)] w0 fun e w' => e = .returned (.tuple #[dv Dig.zero, .bool false]) ∧ Ext w0 w' := by
  refine c_enter (n := 47) (args := [(vp b 0), (Value.agg (digC d).toArray)]) Tryd.func31 rfl rfl (Nat.le_of_ble_eq_true rfl) rfl (fun a hT => ?_)
  simp only [List.zipIdx_cons, List.zipIdx_nil, List.map_cons, List.map_nil, Nat.reduceAdd] at hT
  have hL := Vg.Loc.refl [] w0
  refine c_seq ?_
  refine c_region ?_
  refine l_do rfl ?_
  refine w_box hT hL (by decide) rfl (c := digC d) rfl ?_; clear hT hL; intro b1 a w1 hT hL hE hB
  refine l_do rfl ?_
  refine w_alloc hT hL (by decide) Tryd.ty24 ?_; clear hT hL; intro b2 a w2 hT hL hE hB
  refine l_q hT (q_assign hT rfl) rfl rfl (by decide) ?_; clear hT; intro a hT
  refine l_end ?_
  refine then_norm ?_
  refine c_seq ?_
  refine c_seq ?_
  refine c_region ?_
  refine l_q hT (q_move hT rfl) rfl rfl (by decide) ?_; clear hT; intro a hT
  refine l_q hT ((q_eq_nil hT rfl rfl Tryd.underlying47).b (b := false) rfl) rfl rfl (by decide) ?_; clear hT; intro a hT
  refine l_end ?_
  refine then_norm ?_
  refine c_false hT rfl rfl ?_
  refine wp_skip ?_
  refine then_norm ?_
  refine c_seq ?_
  refine c_region ?_
  refine l_q hT (q_move hT rfl) rfl rfl (by decide) ?_; clear hT; intro a hT
  refine l_q hT (q_nilCheck hT rfl) rfl rfl (by decide) ?_; clear hT; intro a hT
  refine l_q hT (q_fieldAddr hT rfl Tryd.fld65_2 rfl) rfl rfl (by decide) ?_; clear hT; intro a hT
  refine l_q hT (q_load hT rfl Tryd.ty63 ((Rd.loc hb hL (by simp)).part 2 (ds := [(Value.pointer none)]) rfl)) rfl rfl (by decide) ?_; clear hT; intro a hT
  refine l_q hT (q_assign hT rfl) rfl rfl (by decide) ?_; clear hT; intro a hT
  refine l_end ?_
  refine then_norm ?_
  refine c_seq ?_
  refine c_seq ?_
  refine c_region ?_
  refine l_q hT (q_assign hT rfl) rfl rfl (by decide) ?_; clear hT; intro a hT
  refine l_end ?_
  refine then_norm ?_
  refine wp_block ?_
  refine c_loop (fun mz a wz => mz = 0 ∧ Tm 47 a [(3, (vp b1 0)), (4, (vp b2 0)), (5, (Value.bool false)), (6, (Value.pointer none)), (7, (vI 0))] ∧ Vg.Loc [] w0 wz [[(b2, ob (digC Dig.zero) 24)], [(b1, ob (digC d) 24)]]) id 0 ?_ ?_
  · exact ⟨rfl, hT.keep [3, 4, 5, 6, 7] rfl, hL⟩
  clear hT hL
  rintro mz a w3 ⟨rfl, hT, hL⟩
  refine c_seq ?_
  refine c_seq ?_
  refine c_region ?_
  refine l_q hT (q_move hT rfl) rfl rfl (by decide) ?_; clear hT; intro a hT
  refine l_do rfl ?_
  refine w_callT (xs := [.tmp 15]) hT rfl (vs := [(Value.pointer none)]) rfl (args := #[(Value.pointer none)]) rfl Tryd.func45 rfl rfl (by decide) ((inner_nil _).mono ?_)
  rintro e w4 ⟨rfl, hX⟩
  refine ⟨_, rfl, ?_⟩; clear hT; intro a hT; replace hT : Tm 47 a ((16, (Value.bool false)) :: _) := hT
  replace hL := hL.ext hX
  refine l_end ?_
  refine then_norm ?_
  refine c_false hT rfl rfl ?_
  refine wp_exit ?_
  refine then_exit ?_
  refine then_exit ?_
  refine blk_exit ?_
  refine then_norm ?_
  refine c_seq ?_
  refine c_seq ?_
  refine d_start' hL #[false, false, false, false, false, false, false, false, false, false, false] [] rfl rfl rfl ?_; clear hL; intro w5 hL hE; have hR := hL; have hS := Ext.refl w5
  refine d_pure (i := 0) hT #[true, false, false, false, false, false, false, false, false, false, false] rfl (by kernel_rfl) rfl rfl (by decide) (fun _ _ _ h => h) (fun _ => q_move hT rfl) ?_; clear hT; intro a hT
  refine d_pure (i := 1) hT #[true, true, false, false, false, false, false, false, false, false, false] rfl (by kernel_rfl) rfl rfl (by decide) (fun _ _ _ h => h) (fun _ => (q_eq_nil hT rfl rfl Tryd.underlying63).b (b := true) rfl) ?_; clear hT; intro a hT
  refine d_pure (i := 2) hT #[true, true, true, false, false, false, false, false, false, false, false] rfl (by kernel_rfl) rfl rfl (by decide) (fun _ _ _ h => h) (fun _ => q_move hT rfl) ?_; clear hT; intro a hT
  refine d_off (i := 3) hT #[true, true, true, true, false, false, false, false, false, false, false] rfl (by kernel_rfl) rfl rfl (by decide) (fun _ _ _ h => h) ?_; clear hT; intro a hT
  refine d_off (i := 4) hT #[true, true, true, true, true, false, false, false, false, false, false] rfl (by kernel_rfl) rfl rfl (by decide) (fun _ _ _ h => h) ?_; clear hT; intro a hT
  refine d_off (i := 5) hT #[true, true, true, true, true, true, false, false, false, false, false] rfl (by kernel_rfl) rfl rfl (by decide) (fun _ _ _ h => h) ?_; clear hT; intro a hT
  refine d_off (i := 6) hT #[true, true, true, true, true, true, true, false, false, false, false] rfl (by kernel_rfl) rfl rfl (by decide) (fun _ _ _ h => h) ?_; clear hT; intro a hT
  refine d_off (i := 7) hT #[true, true, true, true, true, true, true, true, false, false, false] rfl (by kernel_rfl) rfl rfl (by decide) (fun _ _ _ h => h) ?_; clear hT; intro a hT
  refine d_off (i := 8) hT #[true, true, true, true, true, true, true, true, true, false, false] rfl (by kernel_rfl) rfl rfl (by decide) (fun _ _ _ h => h) ?_; clear hT; intro a hT
  refine d_off (i := 9) hT #[true, true, true, true, true, true, true, true, true, true, false] rfl (by kernel_rfl) rfl rfl (by decide) (fun _ _ _ h => h) ?_; clear hT; intro a hT
  refine d_pure (i := 10) hT #[true, true, true, true, true, true, true, true, true, true, true] rfl (by kernel_rfl) rfl rfl (by decide) (fun _ _ _ h => h) (fun _ => (q_pick hT rfl rfl rfl).v (v := (Value.bool true)) rfl) ?_; clear hT; intro a hT
  refine d_done (by kernel_rfl) ?_; clear hR hS
  refine then_norm ?_
  refine c_true hT rfl rfl ?_
  refine c_seq ?_
  refine c_region ?_
  refine l_q hT (q_build (ps := []) (pv := []) (v := .agg (digC Dig.zero).toArray) hT rfl (fun _ => by kernel_rfl)) rfl rfl (by decide) ?_; clear hT; intro a hT
  refine l_do rfl ?_
  refine w_store hT hL 0 (c := digC Dig.zero) rfl rfl Tryd.ty24 rfl (vs := digC Dig.zero) rfl rfl (by first | decide | (simp [arr32_len, arr8_len, digC_len]; done) | (simp [arr32_len, arr8_len, digC_len]; omega)) rfl (c' := digC Dig.zero) rfl ?_; clear hL; intro w6 hL hE
  replace hL : Vg.Loc [] w0 w6 ([[(b2, ob (digC Dig.zero) 24)], [(b1, ob (digC d) 24)]]) := hL
  refine l_q hT (q_assign hT rfl) rfl rfl (by decide) ?_; clear hT; intro a hT
  refine l_end ?_
  refine then_norm ?_
  refine wp_ret ?_
  refine then_ret ?_
  refine c_ret (vs := [(Value.agg (digC Dig.zero).toArray), (Value.bool false)]) (rs := [.cell 4 24, .tmp 5]) hT rfl (.agg rfl Tryd.ty24 (hL.rd 0 rfl 0 (ds := digC Dig.zero) rfl) rfl (.tmp rfl .nil)) ?_
  exact ⟨rfl, hL.drop⟩

set_option maxRecDepth 20000 in
set_option maxHeartbeats 1000000 in
theorem tNew_bad (w : Int) (hw : widthB w = false) (w0 : World) :
    Calls Tryd.prog 18 #[(vI w)] w0 fun e w' => e = .returned (.tuple #[.pointer none, vI 1]) ∧ Ext w0 w' := by
  refine c_enter (n := 10) (args := [(vI w)]) Tryd.func18 rfl rfl (Nat.le_of_ble_eq_true rfl) rfl (fun a hT => ?_)
  simp only [List.zipIdx_cons, List.zipIdx_nil, List.map_cons, List.map_nil, Nat.reduceAdd] at hT
  have hL := Vg.Loc.refl [] w0
  refine c_seq ?_
  refine c_region ?_
  refine l_q hT (q_assign hT rfl) rfl rfl (by decide) ?_; clear hT; intro a hT
  refine l_q hT (q_assign hT rfl) rfl rfl (by decide) ?_; clear hT; intro a hT
  refine l_end ?_
  refine then_norm ?_
  refine c_seq ?_
  refine c_seq ?_
  refine c_region ?_
  refine l_q hT (q_move hT rfl) rfl rfl (by decide) ?_; clear hT; intro a hT
  refine l_do rfl ?_
  refine w_callT (xs := [.tmp 4]) hT rfl (vs := [(vI w)]) rfl (args := #[(vI w)]) rfl Tryd.func29 rfl rfl (by decide) ((width_spec (w) _).mono ?_)
  rintro e w1 ⟨rfl, hX⟩
  refine ⟨_, rfl, ?_⟩; clear hT; intro a hT; replace hT : Tm 10 a ((5, (Value.bool (widthB w))) :: _) := hT
  replace hL := hL.ext hX
  rw [hw] at hT
  refine l_q hT ((q_not hT rfl).b rfl) rfl rfl (by decide) ?_; clear hT; intro a hT
  refine l_end ?_
  refine then_norm ?_
  refine c_true hT rfl rfl ?_
  refine c_seq ?_
  refine c_region ?_
  refine l_q hT (q_assign hT rfl) rfl rfl (by decide) ?_; clear hT; intro a hT
  refine l_q hT (q_assign hT rfl) rfl rfl (by decide) ?_; clear hT; intro a hT
  refine l_end ?_
  refine then_norm ?_
  refine wp_ret ?_
  refine then_ret ?_
  refine c_ret (vs := [(Value.pointer none), (vI 1)]) (rs := [.tmp 2, .tmp 3]) hT rfl (.tmp rfl (.tmp rfl .nil)) ?_
  exact ⟨rfl, hL.drop⟩

set_option maxRecDepth 20000 in
set_option maxHeartbeats 1000000 in
theorem tNew_ok (w : Int) (hw : widthB w = true) (w0 : World) :
    Calls Tryd.prog 18 #[(vI w)] w0 fun e w' => ∃ b, e = .returned (.tuple #[vp b 0, vI 0]) ∧ Vg.Loc [] w0 w' [[(b, ob [vI w, vI 0, .pointer none] 65)]] := by
  refine c_enter (n := 10) (args := [(vI w)]) Tryd.func18 rfl rfl (Nat.le_of_ble_eq_true rfl) rfl (fun a hT => ?_)
  simp only [List.zipIdx_cons, List.zipIdx_nil, List.map_cons, List.map_nil, Nat.reduceAdd] at hT
  have hL := Vg.Loc.refl [] w0
  refine c_seq ?_
  refine c_region ?_
  refine l_q hT (q_assign hT rfl) rfl rfl (by decide) ?_; clear hT; intro a hT
  refine l_q hT (q_assign hT rfl) rfl rfl (by decide) ?_; clear hT; intro a hT
  refine l_end ?_
  refine then_norm ?_
  refine c_seq ?_
  refine c_seq ?_
  refine c_region ?_
  refine l_q hT (q_move hT rfl) rfl rfl (by decide) ?_; clear hT; intro a hT
  refine l_do rfl ?_
  refine w_callT (xs := [.tmp 4]) hT rfl (vs := [(vI w)]) rfl (args := #[(vI w)]) rfl Tryd.func29 rfl rfl (by decide) ((width_spec (w) _).mono ?_)
  rintro e w1 ⟨rfl, hX⟩
  refine ⟨_, rfl, ?_⟩; clear hT; intro a hT; replace hT : Tm 10 a ((5, (Value.bool (widthB w))) :: _) := hT
  replace hL := hL.ext hX
  rw [hw] at hT
  refine l_q hT ((q_not hT rfl).b rfl) rfl rfl (by decide) ?_; clear hT; intro a hT
  refine l_end ?_
  refine then_norm ?_
  refine c_false hT rfl rfl ?_
  refine wp_skip ?_
  refine then_norm ?_
  refine c_seq ?_
  refine c_region ?_
  refine l_q hT (q_move hT rfl) rfl rfl (by decide) ?_; clear hT; intro a hT
  refine l_q hT (q_build (ps := [(0, .tmp 7)]) (pv := [(0, (vI w))]) (v := .agg [(vI w), (vI 0), (Value.pointer none)].toArray) hT rfl (fun _ => by kernel_rfl)) rfl rfl (by decide) ?_; clear hT; intro a hT
  refine l_do rfl ?_
  refine w_box hT hL (by decide) rfl (c := [(vI w), (vI 0), (Value.pointer none)]) rfl ?_; clear hT hL; intro b1 a w2 hT hL hE hB
  refine l_q hT (q_assign hT rfl) rfl rfl (by decide) ?_; clear hT; intro a hT
  refine l_q hT (q_assign hT rfl) rfl rfl (by decide) ?_; clear hT; intro a hT
  refine l_end ?_
  refine then_norm ?_
  refine wp_ret ?_
  refine c_ret (vs := [(vp b1 0), (vI 0)]) (rs := [.tmp 2, .tmp 3]) hT rfl (.tmp rfl (.tmp rfl .nil)) ?_
  exact ⟨_, rfl, hL⟩

set_option maxRecDepth 20000 in
set_option maxHeartbeats 1000000 in
theorem tRoot_spec (b : Nat) (w n : Int) (tt : KT) (hd : DigAt Tryd.prog 33 98 tt w) (w0 : World) (hK : KeysAt w0) (h0 : 0 ∉ (keys [tt.ents 98])) (hb : Rd w0 b 0 [vI w, vI n, .pointer tt.ad]) (hbn : b ∉ (keys [tt.ents 98])) (hL0 : Vg.Loc (keys [tt.ents 98]) w0 w0 [tt.ents 98]) :
    Calls Tryd.prog 20 #[(vp b 0)] w0 fun e w' => e = .returned (dv (tt.dig w)) ∧ Vg.Loc (keys [tt.ents 98]) w0 w' [] := by
  refine c_enter (n := 15) (args := [(vp b 0)]) Tryd.func20 rfl rfl (Nat.le_of_ble_eq_true rfl) rfl (fun a hT => ?_)
  simp only [List.zipIdx_cons, List.zipIdx_nil, List.map_cons, List.map_nil, Nat.reduceAdd] at hT
  have hL := hL0
  refine c_seq ?_
  refine c_region ?_
  refine l_do rfl ?_
  refine w_alloc hT hL (by decide) Tryd.ty24 ?_; clear hT hL; intro b1 a w1 hT hL hE hB
  refine l_end ?_
  refine then_norm ?_
  refine c_seq ?_
  refine c_seq ?_
  refine c_region ?_
  refine l_q hT (q_move hT rfl) rfl rfl (by decide) ?_; clear hT; intro a hT
  refine l_q hT ((q_eq_nil hT rfl rfl Tryd.underlying47).b (b := false) rfl) rfl rfl (by decide) ?_; clear hT; intro a hT
  refine l_end ?_
  refine then_norm ?_
  refine c_false hT rfl rfl ?_
  refine wp_skip ?_
  refine then_norm ?_
  refine c_seq ?_
  refine d_start' hL #[false, false, false, false, false, false, false, false, false, false] [8, 9] rfl rfl rfl ?_; clear hL; intro w2 hL hE; have hR := hL; have hS := Ext.refl w2
  refine d_pure (i := 0) hT #[true, false, false, false, false, false, false, false, false, false] rfl (by kernel_rfl) rfl rfl (by decide) (fun _ _ _ h => h) (fun _ => q_move hT rfl) ?_; clear hT; intro a hT
  refine d_pure (i := 1) hT #[true, true, false, false, false, false, false, false, false, false] rfl (by kernel_rfl) rfl rfl (by decide) (fun _ _ _ h => h) (fun _ => q_nilCheck hT rfl) ?_; clear hT; intro a hT
  refine d_pure (i := 2) hT #[true, true, true, false, false, false, false, false, false, false] rfl (by kernel_rfl) rfl rfl (by decide) (fun _ _ _ h => h) (fun _ => q_fieldAddr hT rfl Tryd.fld65_2 rfl) ?_; clear hT; intro a hT
  refine d_pure (i := 4) hT #[true, true, true, false, true, false, false, false, false, false] rfl (by kernel_rfl) rfl rfl (by decide) (fun _ _ _ h => h) (fun _ => q_move hT rfl) ?_; clear hT; intro a hT
  refine d_pure (i := 5) hT #[true, true, true, false, true, true, false, false, false, false] rfl (by kernel_rfl) rfl rfl (by decide) (fun _ _ _ h => h) (fun _ => q_nilCheck hT rfl) ?_; clear hT; intro a hT
  refine d_pure (i := 6) hT #[true, true, true, false, true, true, true, false, false, false] rfl (by kernel_rfl) rfl rfl (by decide) (fun _ _ _ h => h) (fun _ => q_fieldAddr hT rfl Tryd.fld65_0 rfl) ?_; clear hT; intro a hT
  refine d_take (i := 3) hT #[true, true, true, true, true, true, true, false, false, false] rfl (by kernel_rfl) rfl rfl (by decide) (fun _ _ _ h => h) (fun _ hs => q_load hT rfl Tryd.ty63 (Rd.ext ((Rd.loc hb hR hbn).part 2 (ds := [(Value.pointer tt.ad)]) rfl) hs)) hS ?_; clear hT; intro a hT
  refine d_take (i := 7) hT #[true, true, true, true, true, true, true, true, false, false] rfl (by kernel_rfl) rfl rfl (by decide) (fun _ _ _ h => h) (fun _ hs => q_load hT rfl Tryd.ty3 (Rd.ext ((Rd.loc hb hR hbn).part 0 (ds := [(vI w)]) rfl) hs)) hS ?_; clear hT; intro a hT
  refine d_one (i := 8) hT #[true, true, true, true, true, true, true, true, true, false] rfl (by kernel_rfl) rfl ?_
  replace hL : Vg.Loc (keys [tt.ents 98]) w0 w2 ([tt.ents 98, [(b1, ob (digC Dig.zero) 24)]]) := hL.front 1 rfl rfl
  refine w_callT (xs := [.tmp 9, .tmp 13]) hT rfl (vs := [(Value.pointer tt.ad), (vI w)]) rfl (args := #[(Value.pointer tt.ad), (vI w)]) rfl Tryd.func33 rfl rfl (by decide) ((hd _ (KeysAt.of hK hL h0) h0 (Vg.Loc.self (cs := [tt.ents 98]) hL)).mono ?_)
  rintro e w3 ⟨rfl, hX⟩
  refine ⟨_, rfl, ?_⟩; clear hT; intro a hT; replace hT : Tm 15 a ((14, (Value.agg (digC (tt.dig w)).toArray)) :: _) := hT
  replace hL : Vg.Loc (keys [tt.ents 98]) w0 w3 ([[(b1, ob (digC Dig.zero) 24)]]) := Vg.Loc.call (ci := [tt.ents 98]) (cr := [[(b1, ob (digC Dig.zero) 24)]]) hL hX
  refine ⟨fun hn => absurd (by decide) hn, ?_⟩
  refine d_one (i := 9) hT #[true, true, true, true, true, true, true, true, true, true] rfl (by kernel_rfl) rfl ?_
  refine w_store hT hL 0 (c := digC Dig.zero) rfl rfl Tryd.ty24 rfl (vs := digC (tt.dig w)) rfl rfl (by first | decide | (simp [arr32_len, arr8_len, digC_len]; done) | (simp [arr32_len, arr8_len, digC_len]; omega)) rfl (c' := digC (tt.dig w)) rfl ?_; clear hL; intro w4 hL hE
  replace hL : Vg.Loc (keys [tt.ents 98]) w0 w4 ([[(b1, ob (digC (tt.dig w)) 24)]]) := hL
  refine ⟨fun hn => absurd (by decide) hn, ?_⟩
  refine d_done (by kernel_rfl) ?_; clear hR hS
  refine then_norm ?_
  refine wp_ret ?_
  refine c_ret (vs := [(Value.agg (digC (tt.dig w)).toArray)]) (rs := [.cell 2 24]) hT rfl (.agg rfl Tryd.ty24 (hL.rd 0 rfl 0 (ds := digC (tt.dig w)) rfl) rfl .nil) ?_
  exact ⟨rfl, hL.drop⟩

set_option maxRecDepth 100000 in
set_option maxHeartbeats 4000000 in
theorem Set_limit (htw : TwiceOK Tryd.prog 30) (b : Nat) (w : Int) (ls : List Leaf) (p : Option Addr) (len cap : Nat) (hc : 4096 < len) (w0 : World) (hsl : SlT w0 p len 64 leafC noLeaf ls) (hds : 0 < len → ∀ ad : Addr, p = some ad → ad.block ∉ [b]) (hh : w0.heap[b]? = some (ob [vI w, vI 0, .pointer none] 65)) :
    Calls Tryd.prog 19 #[(vp b 0), (Value.slice p len cap)] w0 fun e w' => e = .returned (vI 2) ∧ Vg.Loc [b] w0 w' [] := by
  refine c_enter (n := 60) (args := [(vp b 0), (Value.slice p len cap)]) Tryd.func19 rfl rfl (Nat.le_of_ble_eq_true rfl) rfl (fun a hT => ?_)
  simp only [List.zipIdx_cons, List.zipIdx_nil, List.map_cons, List.map_nil, Nat.reduceAdd] at hT
  have hL := Vg.Loc.start1 hh
  have hlen : ls.length = len := hsl.1
  refine c_seq ?_
  refine c_region ?_
  refine l_q hT (q_assign hT rfl) rfl rfl (by decide) ?_; clear hT; intro a hT
  refine l_end ?_
  refine then_norm ?_
  refine c_seq ?_
  refine wp_block ?_
  refine c_seq ?_
  refine c_region ?_
  refine l_q hT (q_move hT rfl) rfl rfl (by decide) ?_; clear hT; intro a hT
  refine l_q hT ((q_eq_nil hT rfl rfl Tryd.underlying47).b (b := false) rfl) rfl rfl (by decide) ?_; clear hT; intro a hT
  refine l_q hT (q_assign hT rfl) rfl rfl (by decide) ?_; clear hT; intro a hT
  refine l_end ?_
  refine then_norm ?_
  refine c_false hT rfl rfl ?_
  refine c_seq ?_
  refine c_region ?_
  refine l_q hT (q_move hT rfl) rfl rfl (by decide) ?_; clear hT; intro a hT
  refine l_q hT (q_len_slice hT rfl Tryd.underlying22) rfl rfl (by decide) ?_; clear hT; intro a hT
  refine l_q hT ((q_gtr hT rfl rfl).b (c := decide (4096 < (len : Int))) (b := true) (by simp; omega)) rfl rfl (by decide) ?_; clear hT; intro a hT
  refine l_q hT (q_assign hT rfl) rfl rfl (by decide) ?_; clear hT; intro a hT
  refine l_end ?_
  refine then_norm ?_
  refine c_true hT rfl rfl ?_
  refine c_seq ?_
  refine c_region ?_
  refine l_q hT (q_assign hT rfl) rfl rfl (by decide) ?_; clear hT; intro a hT
  refine l_end ?_
  refine then_norm ?_
  refine wp_ret ?_
  refine blk_ret ?_
  refine then_ret ?_
  refine c_ret (vs := [(vI 2)]) (rs := [.tmp 4]) hT rfl (.tmp rfl .nil) ?_
  exact ⟨rfl, hL.drop⟩

set_option maxRecDepth 100000 in
set_option maxHeartbeats 4000000 in
theorem Set_twice (htw : TwiceOK Tryd.prog 30) (b : Nat) (w : Int) (ls : List Leaf) (p : Option Addr) (len cap : Nat) (hc : len ≤ 4096) (htt : twins ls = true) (w0 : World) (hsl : SlT w0 p len 64 leafC noLeaf ls) (hds : 0 < len → ∀ ad : Addr, p = some ad → ad.block ∉ [b]) (hh : w0.heap[b]? = some (ob [vI w, vI 0, .pointer none] 65)) :
    Calls Tryd.prog 19 #[(vp b 0), (Value.slice p len cap)] w0 fun e w' => e = .returned (vI 30) ∧ Vg.Loc [b] w0 w' [] := by
  refine c_enter (n := 60) (args := [(vp b 0), (Value.slice p len cap)]) Tryd.func19 rfl rfl (Nat.le_of_ble_eq_true rfl) rfl (fun a hT => ?_)
  simp only [List.zipIdx_cons, List.zipIdx_nil, List.map_cons, List.map_nil, Nat.reduceAdd] at hT
  have hL := Vg.Loc.start1 hh
  have hlen : ls.length = len := hsl.1
  refine c_seq ?_
  refine c_region ?_
  refine l_q hT (q_assign hT rfl) rfl rfl (by decide) ?_; clear hT; intro a hT
  refine l_end ?_
  refine then_norm ?_
  refine c_seq ?_
  refine wp_block ?_
  refine c_seq ?_
  refine c_region ?_
  refine l_q hT (q_move hT rfl) rfl rfl (by decide) ?_; clear hT; intro a hT
  refine l_q hT ((q_eq_nil hT rfl rfl Tryd.underlying47).b (b := false) rfl) rfl rfl (by decide) ?_; clear hT; intro a hT
  refine l_q hT (q_assign hT rfl) rfl rfl (by decide) ?_; clear hT; intro a hT
  refine l_end ?_
  refine then_norm ?_
  refine c_false hT rfl rfl ?_
  refine c_seq ?_
  refine c_region ?_
  refine l_q hT (q_move hT rfl) rfl rfl (by decide) ?_; clear hT; intro a hT
  refine l_q hT (q_len_slice hT rfl Tryd.underlying22) rfl rfl (by decide) ?_; clear hT; intro a hT
  refine l_q hT ((q_gtr hT rfl rfl).b (c := decide (4096 < (len : Int))) (b := false) (decide_eq_false (by omega))) rfl rfl (by decide) ?_; clear hT; intro a hT
  refine l_q hT (q_assign hT rfl) rfl rfl (by decide) ?_; clear hT; intro a hT
  refine l_end ?_
  refine then_norm ?_
  refine c_false hT rfl rfl ?_
  refine c_seq ?_
  refine c_region ?_
  refine l_q hT (q_move hT rfl) rfl rfl (by decide) ?_; clear hT; intro a hT
  refine l_do rfl ?_
  refine w_callT (xs := [.tmp 19]) hT rfl (vs := [(Value.slice p len cap)]) rfl (args := #[(Value.slice p len cap)]) rfl Tryd.func30 rfl rfl (by decide) ((htw ls p len cap _ (hsl.loc hL hds) hc).mono ?_)
  rintro e w1 ⟨rfl, hX⟩
  refine ⟨_, rfl, ?_⟩; clear hT; intro a hT; replace hT : Tm 60 a ((20, (Value.bool (twins ls))) :: _) := hT
  replace hL := hL.ext hX
  rw [htt] at hT
  refine l_q hT (q_assign hT rfl) rfl rfl (by decide) ?_; clear hT; intro a hT
  refine l_end ?_
  refine then_norm ?_
  refine c_true hT rfl rfl ?_
  refine c_seq ?_
  refine c_region ?_
  refine l_q hT (q_assign hT rfl) rfl rfl (by decide) ?_; clear hT; intro a hT
  refine l_end ?_
  refine then_norm ?_
  refine wp_ret ?_
  refine blk_ret ?_
  refine then_ret ?_
  refine c_ret (vs := [(vI 30)]) (rs := [.tmp 4]) hT rfl (.tmp rfl .nil) ?_
  exact ⟨rfl, hL.drop⟩

set_option maxRecDepth 100000 in
set_option maxHeartbeats 4000000 in
theorem Set_ok (htw : TwiceOK Tryd.prog 30) (b : Nat) (w : Int) (ls : List Leaf) (p : Option Addr) (len cap : Nat) (hc : len ≤ 4096) (htt : twins ls = false) (w0 : World) (hsl : SlT w0 p len 64 leafC noLeaf ls) (hds : 0 < len → ∀ ad : Addr, p = some ad → ad.block ∉ [b]) (hh : w0.heap[b]? = some (ob [vI w, vI 0, .pointer none] 65)) :
    Calls Tryd.prog 19 #[(vp b 0), (Value.slice p len cap)] w0 fun e w' => ∃ tt, e = .returned (vI 0) ∧ Vg.Loc [b] w0 w' [[(b, ob [vI w, vI (len : Int), .pointer tt.ad] 65)], tt.ents 98] ∧ Rep tt ls.reverse 0 := by
  refine c_enter (n := 60) (args := [(vp b 0), (Value.slice p len cap)]) Tryd.func19 rfl rfl (Nat.le_of_ble_eq_true rfl) rfl (fun a hT => ?_)
  simp only [List.zipIdx_cons, List.zipIdx_nil, List.map_cons, List.map_nil, Nat.reduceAdd] at hT
  have hL := Vg.Loc.start1 hh
  have hlen : ls.length = len := hsl.1
  refine c_seq ?_
  refine c_region ?_
  refine l_q hT (q_assign hT rfl) rfl rfl (by decide) ?_; clear hT; intro a hT
  refine l_end ?_
  refine then_norm ?_
  refine c_seq ?_
  refine wp_block ?_
  refine c_seq ?_
  refine c_region ?_
  refine l_q hT (q_move hT rfl) rfl rfl (by decide) ?_; clear hT; intro a hT
  refine l_q hT ((q_eq_nil hT rfl rfl Tryd.underlying47).b (b := false) rfl) rfl rfl (by decide) ?_; clear hT; intro a hT
  refine l_q hT (q_assign hT rfl) rfl rfl (by decide) ?_; clear hT; intro a hT
  refine l_end ?_
  refine then_norm ?_
  refine c_false hT rfl rfl ?_
  refine c_seq ?_
  refine c_region ?_
  refine l_q hT (q_move hT rfl) rfl rfl (by decide) ?_; clear hT; intro a hT
  refine l_q hT (q_len_slice hT rfl Tryd.underlying22) rfl rfl (by decide) ?_; clear hT; intro a hT
  refine l_q hT ((q_gtr hT rfl rfl).b (c := decide (4096 < (len : Int))) (b := false) (decide_eq_false (by omega))) rfl rfl (by decide) ?_; clear hT; intro a hT
  refine l_q hT (q_assign hT rfl) rfl rfl (by decide) ?_; clear hT; intro a hT
  refine l_end ?_
  refine then_norm ?_
  refine c_false hT rfl rfl ?_
  refine c_seq ?_
  refine c_region ?_
  refine l_q hT (q_move hT rfl) rfl rfl (by decide) ?_; clear hT; intro a hT
  refine l_do rfl ?_
  refine w_callT (xs := [.tmp 19]) hT rfl (vs := [(Value.slice p len cap)]) rfl (args := #[(Value.slice p len cap)]) rfl Tryd.func30 rfl rfl (by decide) ((htw ls p len cap _ (hsl.loc hL hds) hc).mono ?_)
  rintro e w1 ⟨rfl, hX⟩
  refine ⟨_, rfl, ?_⟩; clear hT; intro a hT; replace hT : Tm 60 a ((20, (Value.bool (twins ls))) :: _) := hT
  replace hL := hL.ext hX
  rw [htt] at hT
  refine l_q hT (q_assign hT rfl) rfl rfl (by decide) ?_; clear hT; intro a hT
  refine l_end ?_
  refine then_norm ?_
  refine c_false hT rfl rfl ?_
  refine wp_skip ?_
  refine blk_norm ?_
  refine then_norm ?_
  refine c_seq ?_
  refine d_start' hL #[false, false, false, false, false, false, false, false, false, false] [] rfl rfl rfl ?_; clear hL; intro w2 hL hE; have hR := hL; have hS := Ext.refl w2
  refine d_pure (i := 0) hT #[true, false, false, false, false, false, false, false, false, false] rfl (by kernel_rfl) rfl rfl (by decide) (fun _ _ _ h => h) (fun _ => q_move hT rfl) ?_; clear hT; intro a hT
  refine d_pure (i := 1) hT #[true, true, false, false, false, false, false, false, false, false] rfl (by kernel_rfl) rfl rfl (by decide) (fun _ _ _ h => h) (fun _ => q_nilCheck hT rfl) ?_; clear hT; intro a hT
  refine d_pure (i := 2) hT #[true, true, true, false, false, false, false, false, false, false] rfl (by kernel_rfl) rfl rfl (by decide) (fun _ _ _ h => h) (fun _ => q_fieldAddr hT rfl Tryd.fld65_2 rfl) ?_; clear hT; intro a hT
  refine d_pure (i := 4) hT #[true, true, true, false, true, false, false, false, false, false] rfl (by kernel_rfl) rfl rfl (by decide) (fun _ _ _ h => h) (fun _ => q_move hT rfl) ?_; clear hT; intro a hT
  refine d_pure (i := 5) hT #[true, true, true, false, true, true, false, false, false, false] rfl (by kernel_rfl) rfl rfl (by decide) (fun _ _ _ h => h) (fun _ => q_nilCheck hT rfl) ?_; clear hT; intro a hT
  refine d_pure (i := 6) hT #[true, true, true, false, true, true, true, false, false, false] rfl (by kernel_rfl) rfl rfl (by decide) (fun _ _ _ h => h) (fun _ => q_fieldAddr hT rfl Tryd.fld65_1 rfl) ?_; clear hT; intro a hT
  refine d_take (i := 3) hT #[true, true, true, true, true, true, true, false, false, false] rfl (by kernel_rfl) rfl rfl (by decide) (fun _ _ _ h => h) (fun _ hs => q_load hT rfl Tryd.ty63 (Rd.ext (hR.rd 0 rfl 2 (ds := [(Value.pointer none)]) rfl) hs)) hS ?_; clear hT; intro a hT
  refine d_pure (i := 8) hT #[true, true, true, true, true, true, true, false, true, false] rfl (by kernel_rfl) rfl rfl (by decide) (fun _ _ _ h => h) (fun _ => q_assign hT rfl) ?_; clear hT; intro a hT
  refine d_take (i := 7) hT #[true, true, true, true, true, true, true, true, true, false] rfl (by kernel_rfl) rfl rfl (by decide) (fun _ _ _ h => h) (fun _ hs => q_load hT rfl Tryd.ty3 (Rd.ext (hR.rd 0 rfl 1 (ds := [(vI 0)]) rfl) hs)) hS ?_; clear hT; intro a hT
  refine d_pure (i := 9) hT #[true, true, true, true, true, true, true, true, true, true] rfl (by kernel_rfl) rfl rfl (by decide) (fun _ _ _ h => h) (fun _ => q_assign hT rfl) ?_; clear hT; intro a hT
  refine d_done (by kernel_rfl) ?_; clear hR hS
  refine then_norm ?_
  refine c_seq ?_
  refine c_seq ?_
  refine c_region ?_
  refine l_q hT (q_move hT rfl) rfl rfl (by decide) ?_; clear hT; intro a hT
  refine l_q hT (q_len_slice hT rfl Tryd.underlying22) rfl rfl (by decide) ?_; clear hT; intro a hT
  refine l_q hT (q_move hT rfl) rfl rfl (by decide) ?_; clear hT; intro a hT
  refine l_end ?_
  refine then_norm ?_
  refine wp_block ?_
  refine c_loop (fun mz a wz => ∃ (t : Nat) (tt : KT), mz = len - t ∧ t ≤ len ∧ Rep tt (ls.take t).reverse 0 ∧ Tm 60 a [(0, (vp b 0)), (1, (Value.slice p len cap)), (4, (vI 0)), (5, (Value.pointer tt.ad)), (6, (vI (t : Int))), (29, (Value.slice p len cap)), (30, (vI (len : Int))), (31, (vI (t : Int)))] ∧ Vg.Loc [b] w0 wz [[(b, ob [(vI w), (vI 0), (Value.pointer none)] 65)], tt.ents 98]) id len ?_ ?_
  · exact ⟨0, KT.nil, rfl, by omega, by simp [Rep], hT.keep [0, 1, 4, 5, 6, 29, 30, 31] rfl, hL.regroup rfl⟩
  clear hT hL
  rintro mz a w3 ⟨t, tt, rfl, ht, hrep0, hT, hL⟩
  refine c_seq ?_
  refine c_region ?_
  refine l_q hT (q_lss hT rfl rfl) rfl rfl (by decide) ?_; clear hT; intro a hT
  refine l_end ?_
  refine then_norm ?_
  refine c_seq ?_
  refine c_if hT rfl (fun hc1 => ?_) (fun hc1 => ?_)
  · skip
    have hc1 := of_decide_eq_true hc1
    refine wp_skip ?_
    refine then_norm ?_
    refine c_seq ?_
    refine wp_block ?_
    refine c_seq ?_
    refine c_region ?_
    obtain ⟨sb1, so1, hp1, hrd1⟩ := (hsl).2 (by omega)
    refine l_q hT (q_indexAddr (b := sb1) (off := so1) (len := len) (cap := cap) hT (by rw [← hp1]; rfl) rfl Tryd.sli22 (by omega) (by omega)) rfl rfl (by decide) ?_; clear hT; intro a hT
    refine l_q hT (q_load_agg hT rfl Tryd.ty36 (Rd.loc (hrd1 t (by omega)) hL (hds (by omega) _ (by first | assumption | rfl))) rfl) rfl rfl (by decide) ?_; clear hT; intro a hT
    refine l_do rfl ?_
    refine w_alloc hT hL (by decide) Tryd.ty36 ?_; clear hT hL; intro b1 a w4 hT hL hE hB
    refine l_do rfl ?_
    refine w_store hT hL 0 (c := digC Dig.zero ++ (digC Dig.zero)) rfl rfl Tryd.ty36 rfl (vs := digC ((ls.getD t noLeaf).p) ++ (digC ((ls.getD t noLeaf).v))) rfl rfl (by first | decide | (simp [arr32_len, arr8_len, digC_len]; done) | (simp [arr32_len, arr8_len, digC_len]; omega)) rfl (c' := digC ((ls.getD t noLeaf).p) ++ (digC ((ls.getD t noLeaf).v))) rfl ?_; clear hL; intro w5 hL hE
    replace hL : Vg.Loc [b] w0 w5 ([[(b1, ob (digC ((ls.getD t noLeaf).p) ++ (digC ((ls.getD t noLeaf).v))) 36)], [(b, ob [(vI w), (vI 0), (Value.pointer none)] 65)], tt.ents 98]) := hL
    refine l_end ?_
    refine then_norm ?_
    refine c_seq ?_
    refine c_seq ?_
    refine c_region ?_
    refine l_q hT (q_move hT rfl) rfl rfl (by decide) ?_; clear hT; intro a hT
    refine l_q hT (q_fieldAddr hT rfl Tryd.fld36_0 rfl) rfl rfl (by decide) ?_; clear hT; intro a hT
    refine l_q hT (q_load_agg hT rfl Tryd.ty24 (hL.rd 0 rfl 0 (ds := digC ((ls.getD t noLeaf).p)) rfl) rfl) rfl rfl (by decide) ?_; clear hT; intro a hT
    refine l_do rfl ?_
    refine w_callT (xs := [.tmp 36, .tmp 38]) hT rfl (vs := [(vp b 0), (Value.agg (digC ((ls.getD t noLeaf).p)).toArray)]) rfl (args := #[(vp b 0), (Value.agg (digC ((ls.getD t noLeaf).p)).toArray)]) rfl Tryd.func31 rfl rfl (by decide) ((Get_none b w 0 ((ls.getD t noLeaf).p) _ (hL.rd 1 rfl 0 rfl)).mono ?_)
    rintro e w6 ⟨rfl, hX⟩
    refine ⟨_, rfl, ?_⟩; clear hT; intro a hT; replace hT : Tm 60 a ((39, (Value.tuple #[(Value.agg (digC Dig.zero).toArray), (Value.bool false)])) :: _) := hT
    replace hL := hL.ext hX
    refine l_q hT (q_move hT rfl) rfl rfl (by decide) ?_; clear hT; intro a hT
    refine l_q hT (q_extract hT rfl rfl) rfl rfl (by decide) ?_; clear hT; intro a hT
    refine l_q hT (q_extract hT rfl rfl) rfl rfl (by decide) ?_; clear hT; intro a hT
    refine l_do rfl ?_
    refine w_alloc hT hL (by decide) Tryd.ty24 ?_; clear hT hL; intro b2 a w7 hT hL hE hB
    refine l_do rfl ?_
    refine w_store hT hL 0 (c := digC Dig.zero) rfl rfl Tryd.ty24 rfl (vs := digC Dig.zero) rfl rfl (by first | decide | (simp [arr32_len, arr8_len, digC_len]; done) | (simp [arr32_len, arr8_len, digC_len]; omega)) rfl (c' := digC Dig.zero) rfl ?_; clear hL; intro w8 hL hE
    replace hL : Vg.Loc [b] w0 w8 ([[(b2, ob (digC Dig.zero) 24)], [(b1, ob (digC ((ls.getD t noLeaf).p) ++ (digC ((ls.getD t noLeaf).v))) 36)], [(b, ob [(vI w), (vI 0), (Value.pointer none)] 65)], tt.ents 98]) := hL
    refine l_q hT (q_assign hT rfl) rfl rfl (by decide) ?_; clear hT; intro a hT
    refine l_end ?_
    refine then_norm ?_
    refine c_seq ?_
    refine c_region ?_
    refine l_q hT (q_move hT rfl) rfl rfl (by decide) ?_; clear hT; intro a hT
    refine l_q hT ((q_not hT rfl).b rfl) rfl rfl (by decide) ?_; clear hT; intro a hT
    refine l_end ?_
    refine then_norm ?_
    refine c_true hT rfl rfl ?_
    refine c_region ?_
    refine l_q hT (q_move hT rfl) rfl rfl (by decide) ?_; clear hT; intro a hT
    refine l_q hT (q_addI hT rfl rfl (r := (t : Int) + 1) rfl (by omega) (by omega)) rfl rfl (by decide) ?_; clear hT; intro a hT
    refine l_q hT (q_assign hT rfl) rfl rfl (by decide) ?_; clear hT; intro a hT
    refine l_end ?_
    refine then_norm ?_
    refine c_region ?_
    refine l_q hT (q_move hT rfl) rfl rfl (by decide) ?_; clear hT; intro a hT
    refine l_q hT (q_load_agg hT rfl Tryd.ty36 (hL.rd 1 rfl 0 (ds := digC ((ls.getD t noLeaf).p) ++ (digC ((ls.getD t noLeaf).v))) rfl) rfl) rfl rfl (by decide) ?_; clear hT; intro a hT
    refine l_do rfl ?_
    replace hL : Vg.Loc [b] w0 w8 ([tt.ents 98, [(b2, ob (digC Dig.zero) 24)], [(b1, ob (digC ((ls.getD t noLeaf).p) ++ (digC ((ls.getD t noLeaf).v))) 36)], [(b, ob [(vI w), (vI 0), (Value.pointer none)] 65)]]) := hL.front 3 rfl rfl
    refine w_callT (xs := [.tmp 46, .tmp 47, .const (.int .i64 0)]) hT rfl (vs := [(Value.pointer tt.ad), (Value.agg (digC ((ls.getD t noLeaf).p) ++ (digC ((ls.getD t noLeaf).v))).toArray), (vI 0)]) rfl (args := #[(Value.pointer tt.ad), (Value.agg (digC ((ls.getD t noLeaf).p) ++ (digC ((ls.getD t noLeaf).v))).toArray), (vI 0)]) rfl Tryd.func32 rfl rfl (by decide) (((with_ok 256 0 rfl) tt (ls.getD t noLeaf) (ls.take t).reverse _ hrep0 (twins_good_cons htt (by omega)) (Vg.Loc.self (cs := [tt.ents 98]) hL)).mono ?_)
    rintro e w9 ⟨t1, rfl, hX, hrep1⟩
    refine ⟨_, rfl, ?_⟩; clear hT; intro a hT; replace hT : Tm 60 a ((48, (Value.pointer t1.ad)) :: _) := hT
    replace hL : Vg.Loc [b] w0 w9 ([t1.ents 98, [(b2, ob (digC Dig.zero) 24)], [(b1, ob (digC ((ls.getD t noLeaf).p) ++ (digC ((ls.getD t noLeaf).v))) 36)], [(b, ob [(vI w), (vI 0), (Value.pointer none)] 65)]]) := Vg.Loc.call (ci := [tt.ents 98]) (cr := [[(b2, ob (digC Dig.zero) 24)], [(b1, ob (digC ((ls.getD t noLeaf).p) ++ (digC ((ls.getD t noLeaf).v))) 36)], [(b, ob [(vI w), (vI 0), (Value.pointer none)] 65)]]) hL hX
    refine l_q hT (q_assign hT rfl) rfl rfl (by decide) ?_; clear hT; intro a hT
    refine l_end ?_
    refine blk_norm ?_
    refine then_norm ?_
    refine c_region ?_
    refine l_q hT (q_addI hT rfl rfl (r := (t : Int) + 1) rfl (by omega) (by omega)) rfl rfl (by decide) ?_; clear hT; intro a hT
    refine l_q hT (q_move hT rfl) rfl rfl (by decide) ?_; clear hT; intro a hT
    refine l_end ?_
    refine then_norm ?_
    replace hL : Vg.Loc [b] w0 w9 ([[(b, ob [(vI w), (vI 0), (Value.pointer none)] 65)], t1.ents 98, [(b2, ob (digC Dig.zero) 24)], [(b1, ob (digC ((ls.getD t noLeaf).p) ++ (digC ((ls.getD t noLeaf).v))) 36)]]) := hL.front 3 rfl rfl
    replace hL : Vg.Loc [b] w0 w9 ([[(b, ob [(vI w), (vI 0), (Value.pointer none)] 65)], t1.ents 98]) := hL.sub (.cons_cons _ (.cons_cons _ (.cons _ (.cons _ .slnil))))
    have hrep := hrep1; rw [← rev_take_succ ls t (by omega)] at hrep
    exact ⟨_, ⟨t + 1, _, rfl, by omega, hrep, hT.keep [0, 1, 4, 5, 6, 29, 30, 31] rfl, hL⟩, by simp only [id]; omega⟩
  · skip
    have hc1 := of_decide_eq_false hc1
    obtain rfl : t = len := by omega
    have hf : ls.take t = ls := List.take_of_length_le (by omega)
    rw [hf] at hrep0
    refine wp_exit ?_
    refine then_exit ?_
    refine then_exit ?_
    refine blk_exit ?_
    refine then_norm ?_
    refine c_seq ?_
    refine c_seq ?_
    refine c_region ?_
    refine l_q hT (q_move hT rfl) rfl rfl (by decide) ?_; clear hT; intro a hT
    refine l_q hT ((q_gtr hT rfl rfl).b (c := decide (4096 < (t : Int))) (b := false) (decide_eq_false (by omega))) rfl rfl (by decide) ?_; clear hT; intro a hT
    refine l_end ?_
    refine then_norm ?_
    refine c_false hT rfl rfl ?_
    refine wp_skip ?_
    refine then_norm ?_
    refine c_seq ?_
    refine c_region ?_
    refine l_q hT (q_move hT rfl) rfl rfl (by decide) ?_; clear hT; intro a hT
    refine l_q hT (q_move hT rfl) rfl rfl (by decide) ?_; clear hT; intro a hT
    refine l_q hT (q_move hT rfl) rfl rfl (by decide) ?_; clear hT; intro a hT
    refine l_q hT (q_move hT rfl) rfl rfl (by decide) ?_; clear hT; intro a hT
    refine l_q hT (q_nilCheck hT rfl) rfl rfl (by decide) ?_; clear hT; intro a hT
    refine l_q hT (q_fieldAddr hT rfl Tryd.fld65_2 rfl) rfl rfl (by decide) ?_; clear hT; intro a hT
    refine l_do rfl ?_
    refine w_store hT hL 0 (c := [(vI w), (vI 0), (Value.pointer none)]) rfl rfl Tryd.ty63 rfl (vs := [(Value.pointer tt.ad)]) rfl rfl (by first | decide | (simp [arr32_len, arr8_len, digC_len]; done) | (simp [arr32_len, arr8_len, digC_len]; omega)) rfl (c' := [(vI w), (vI 0), (Value.pointer tt.ad)]) rfl ?_; clear hL; intro w10 hL hE
    replace hL : Vg.Loc [b] w0 w10 ([[(b, ob [(vI w), (vI 0), (Value.pointer tt.ad)] 65)], tt.ents 98]) := hL
    refine l_q hT (q_nilCheck hT rfl) rfl rfl (by decide) ?_; clear hT; intro a hT
    refine l_q hT (q_fieldAddr hT rfl Tryd.fld65_1 rfl) rfl rfl (by decide) ?_; clear hT; intro a hT
    refine l_do rfl ?_
    refine w_store hT hL 0 (c := [(vI w), (vI 0), (Value.pointer tt.ad)]) rfl rfl Tryd.ty3 rfl (vs := [(vI (t : Int))]) rfl rfl (by first | decide | (simp [arr32_len, arr8_len, digC_len]; done) | (simp [arr32_len, arr8_len, digC_len]; omega)) rfl (c' := [(vI w), (vI (t : Int)), (Value.pointer tt.ad)]) rfl ?_; clear hL; intro w11 hL hE
    replace hL : Vg.Loc [b] w0 w11 ([[(b, ob [(vI w), (vI (t : Int)), (Value.pointer tt.ad)] 65)], tt.ents 98]) := hL
    refine l_end ?_
    refine then_norm ?_
    refine c_seq ?_
    refine c_region ?_
    refine l_q hT (q_assign hT rfl) rfl rfl (by decide) ?_; clear hT; intro a hT
    refine l_end ?_
    refine then_norm ?_
    refine wp_ret ?_
    refine c_ret (vs := [(vI 0)]) (rs := [.tmp 4]) hT rfl (.tmp rfl .nil) ?_
    exact ⟨tt, rfl, hL, hrep0⟩
end Go.Proofs.YtcaffacganffjaaDoor
end

section
namespace Go.Proofs.YtcaffacganffjaaDoor
open Go Go.Vg


set_option maxRecDepth 100000 in
set_option maxHeartbeats 4000000 in
theorem root_arg (htw : TwiceOK Tryd.prog 30) (w : Int) (ls : List Leaf) (p : Option Addr) (len cap : Nat) (hw : widthB w = false) (w0 : World) (hK : KeysAt w0) (hsl : SlT w0 p len 64 leafC noLeaf ls) :
    Calls Tryd.prog 8 #[(vI w), (Value.slice p len cap)] w0 fun e w' => e = .returned (.tuple #[dv Dig.zero, vI 1]) ∧ Ext w0 w' := by
  refine c_enter (n := 27) (args := [(vI w), (Value.slice p len cap)]) Tryd.func8 rfl rfl (Nat.le_of_ble_eq_true rfl) rfl (fun a hT => ?_)
  simp only [List.zipIdx_cons, List.zipIdx_nil, List.map_cons, List.map_nil, Nat.reduceAdd] at hT
  have hL := Vg.Loc.refl [] w0
  have hlen : ls.length = len := hsl.1
  refine c_seq ?_
  refine c_region ?_
  refine l_do rfl ?_
  refine w_alloc hT hL (by decide) Tryd.ty24 ?_; clear hT hL; intro b1 a w1 hT hL hE hB
  refine l_q hT (q_assign hT rfl) rfl rfl (by decide) ?_; clear hT; intro a hT
  refine l_end ?_
  refine then_norm ?_
  refine c_seq ?_
  refine c_region ?_
  refine l_q hT (q_move hT rfl) rfl rfl (by decide) ?_; clear hT; intro a hT
  refine l_do rfl ?_
  refine w_callT (xs := [.tmp 10]) hT rfl (vs := [(vI w)]) rfl (args := #[(vI w)]) rfl Tryd.func18 rfl rfl (by decide) ((tNew_bad w hw _).mono ?_)
  rintro e w2 ⟨rfl, hX⟩
  refine ⟨_, rfl, ?_⟩; clear hT; intro a hT; replace hT : Tm 27 a ((11, (Value.tuple #[(Value.pointer none), (vI 1)])) :: _) := hT
  replace hL := hL.ext hX
  refine l_q hT (q_move hT rfl) rfl rfl (by decide) ?_; clear hT; intro a hT
  refine l_q hT (q_extract hT rfl rfl) rfl rfl (by decide) ?_; clear hT; intro a hT
  refine l_q hT (q_extract hT rfl rfl) rfl rfl (by decide) ?_; clear hT; intro a hT
  refine l_q hT (q_assign hT rfl) rfl rfl (by decide) ?_; clear hT; intro a hT
  refine l_q hT (q_assign hT rfl) rfl rfl (by decide) ?_; clear hT; intro a hT
  refine l_end ?_
  refine then_norm ?_
  refine c_seq ?_
  refine c_seq ?_
  refine c_region ?_
  refine l_q hT (q_move hT rfl) rfl rfl (by decide) ?_; clear hT; intro a hT
  refine l_q hT ((q_neq hT rfl rfl).b (b := true) rfl) rfl rfl (by decide) ?_; clear hT; intro a hT
  refine l_end ?_
  refine then_norm ?_
  refine c_true hT rfl rfl ?_
  refine c_seq ?_
  refine c_region ?_
  refine l_q hT (q_build (ps := []) (pv := []) (v := .agg (digC Dig.zero).toArray) hT rfl (fun _ => by kernel_rfl)) rfl rfl (by decide) ?_; clear hT; intro a hT
  refine l_q hT (q_move hT rfl) rfl rfl (by decide) ?_; clear hT; intro a hT
  refine l_do rfl ?_
  refine w_store hT hL 0 (c := digC Dig.zero) rfl rfl Tryd.ty24 rfl (vs := digC Dig.zero) rfl rfl (by first | decide | (simp [arr32_len, arr8_len, digC_len]; done) | (simp [arr32_len, arr8_len, digC_len]; omega)) rfl (c' := digC Dig.zero) rfl ?_; clear hL; intro w3 hL hE
  replace hL : Vg.Loc [] w0 w3 ([[(b1, ob (digC Dig.zero) 24)]]) := hL
  refine l_q hT (q_assign hT rfl) rfl rfl (by decide) ?_; clear hT; intro a hT
  refine l_end ?_
  refine then_norm ?_
  refine wp_ret ?_
  refine then_ret ?_
  refine c_ret (vs := [(Value.agg (digC Dig.zero).toArray), (vI 1)]) (rs := [.cell 4 24, .tmp 5]) hT rfl (.agg rfl Tryd.ty24 (hL.rd 0 rfl 0 (ds := digC Dig.zero) rfl) rfl (.tmp rfl .nil)) ?_
  exact ⟨rfl, hL.drop⟩

set_option maxRecDepth 100000 in
set_option maxHeartbeats 4000000 in
theorem root_limit (htw : TwiceOK Tryd.prog 30) (w : Int) (ls : List Leaf) (p : Option Addr) (len cap : Nat) (hw : widthB w = true) (hc : 4096 < len) (w0 : World) (hK : KeysAt w0) (hsl : SlT w0 p len 64 leafC noLeaf ls) :
    Calls Tryd.prog 8 #[(vI w), (Value.slice p len cap)] w0 fun e w' => e = .returned (.tuple #[dv Dig.zero, vI 2]) ∧ Ext w0 w' := by
  refine c_enter (n := 27) (args := [(vI w), (Value.slice p len cap)]) Tryd.func8 rfl rfl (Nat.le_of_ble_eq_true rfl) rfl (fun a hT => ?_)
  simp only [List.zipIdx_cons, List.zipIdx_nil, List.map_cons, List.map_nil, Nat.reduceAdd] at hT
  have hL := Vg.Loc.refl [] w0
  have hlen : ls.length = len := hsl.1
  refine c_seq ?_
  refine c_region ?_
  refine l_do rfl ?_
  refine w_alloc hT hL (by decide) Tryd.ty24 ?_; clear hT hL; intro b1 a w1 hT hL hE hB
  refine l_q hT (q_assign hT rfl) rfl rfl (by decide) ?_; clear hT; intro a hT
  refine l_end ?_
  refine then_norm ?_
  refine c_seq ?_
  refine c_region ?_
  refine l_q hT (q_move hT rfl) rfl rfl (by decide) ?_; clear hT; intro a hT
  refine l_do rfl ?_
  refine w_callT (xs := [.tmp 10]) hT rfl (vs := [(vI w)]) rfl (args := #[(vI w)]) rfl Tryd.func18 rfl rfl (by decide) ((tNew_ok w hw _).mono ?_)
  rintro e w2 ⟨bt1, rfl, hX⟩
  refine ⟨_, rfl, ?_⟩; clear hT; intro a hT; replace hT : Tm 27 a ((11, (Value.tuple #[(vp bt1 0), (vI 0)])) :: _) := hT
  replace hL : Vg.Loc [] w0 w2 ([[(bt1, ob [(vI w), (vI 0), (Value.pointer none)] 65)], [(b1, ob (digC Dig.zero) 24)]]) := hL.exts hX
  refine l_q hT (q_move hT rfl) rfl rfl (by decide) ?_; clear hT; intro a hT
  refine l_q hT (q_extract hT rfl rfl) rfl rfl (by decide) ?_; clear hT; intro a hT
  refine l_q hT (q_extract hT rfl rfl) rfl rfl (by decide) ?_; clear hT; intro a hT
  refine l_q hT (q_assign hT rfl) rfl rfl (by decide) ?_; clear hT; intro a hT
  refine l_q hT (q_assign hT rfl) rfl rfl (by decide) ?_; clear hT; intro a hT
  refine l_end ?_
  refine then_norm ?_
  refine c_seq ?_
  refine c_seq ?_
  refine c_region ?_
  refine l_q hT (q_move hT rfl) rfl rfl (by decide) ?_; clear hT; intro a hT
  refine l_q hT ((q_neq hT rfl rfl).b (b := false) rfl) rfl rfl (by decide) ?_; clear hT; intro a hT
  refine l_end ?_
  refine then_norm ?_
  refine c_false hT rfl rfl ?_
  refine wp_skip ?_
  refine then_norm ?_
  refine c_seq ?_
  refine c_seq ?_
  refine c_region ?_
  refine l_q hT (q_move hT rfl) rfl rfl (by decide) ?_; clear hT; intro a hT
  refine l_q hT (q_move hT rfl) rfl rfl (by decide) ?_; clear hT; intro a hT
  refine l_do rfl ?_
  refine w_callT (xs := [.tmp 18, .tmp 19]) hT rfl (vs := [(vp bt1 0), (Value.slice p len cap)]) rfl (args := #[(vp bt1 0), (Value.slice p len cap)]) rfl Tryd.func19 rfl rfl (by decide) ((Set_limit htw bt1 w ls p len cap hc _ (hsl.ext hL) (fun h0 ad hp hm => by simp at hm; obtain ⟨b9, o9, hp9, hr9⟩ := hsl.2 h0; have h8 := (hr9 0 h0).lt; rw [hp] at hp9; cases hp9; have := hL.fresh 0 rfl; simp only at hm; omega) (hL.get 0 rfl)).mono ?_)
  rintro e w3 ⟨rfl, hX⟩
  refine ⟨_, rfl, ?_⟩; clear hT; intro a hT; replace hT : Tm 27 a ((20, (vI 2)) :: _) := hT
  replace hL : Vg.Loc [] w0 w3 ([[(b1, ob (digC Dig.zero) 24)]]) := Vg.Loc.call (ci := [[(bt1, ob [(vI w), (vI 0), (Value.pointer none)] 65)]]) (cr := [[(b1, ob (digC Dig.zero) 24)]]) hL hX
  refine l_q hT (q_assign hT rfl) rfl rfl (by decide) ?_; clear hT; intro a hT
  refine l_end ?_
  refine then_norm ?_
  refine c_seq ?_
  refine c_region ?_
  refine l_q hT (q_move hT rfl) rfl rfl (by decide) ?_; clear hT; intro a hT
  refine l_q hT ((q_neq hT rfl rfl).b (b := true) rfl) rfl rfl (by decide) ?_; clear hT; intro a hT
  refine l_end ?_
  refine then_norm ?_
  refine c_true hT rfl rfl ?_
  refine c_seq ?_
  refine c_region ?_
  refine l_q hT (q_build (ps := []) (pv := []) (v := .agg (digC Dig.zero).toArray) hT rfl (fun _ => by kernel_rfl)) rfl rfl (by decide) ?_; clear hT; intro a hT
  refine l_q hT (q_move hT rfl) rfl rfl (by decide) ?_; clear hT; intro a hT
  refine l_do rfl ?_
  refine w_store hT hL 0 (c := digC Dig.zero) rfl rfl Tryd.ty24 rfl (vs := digC Dig.zero) rfl rfl (by first | decide | (simp [arr32_len, arr8_len, digC_len]; done) | (simp [arr32_len, arr8_len, digC_len]; omega)) rfl (c' := digC Dig.zero) rfl ?_; clear hL; intro w4 hL hE
  replace hL : Vg.Loc [] w0 w4 ([[(b1, ob (digC Dig.zero) 24)]]) := hL
  refine l_q hT (q_assign hT rfl) rfl rfl (by decide) ?_; clear hT; intro a hT
  refine l_end ?_
  refine then_norm ?_
  refine wp_ret ?_
  refine then_ret ?_
  refine c_ret (vs := [(Value.agg (digC Dig.zero).toArray), (vI 2)]) (rs := [.cell 4 24, .tmp 5]) hT rfl (.agg rfl Tryd.ty24 (hL.rd 0 rfl 0 (ds := digC Dig.zero) rfl) rfl (.tmp rfl .nil)) ?_
  exact ⟨rfl, hL.drop⟩

set_option maxRecDepth 100000 in
set_option maxHeartbeats 4000000 in
theorem root_twice (htw : TwiceOK Tryd.prog 30) (w : Int) (ls : List Leaf) (p : Option Addr) (len cap : Nat) (hw : widthB w = true) (hc : len ≤ 4096) (htt : twins ls = true) (w0 : World) (hK : KeysAt w0) (hsl : SlT w0 p len 64 leafC noLeaf ls) :
    Calls Tryd.prog 8 #[(vI w), (Value.slice p len cap)] w0 fun e w' => e = .returned (.tuple #[dv Dig.zero, vI 30]) ∧ Ext w0 w' := by
  refine c_enter (n := 27) (args := [(vI w), (Value.slice p len cap)]) Tryd.func8 rfl rfl (Nat.le_of_ble_eq_true rfl) rfl (fun a hT => ?_)
  simp only [List.zipIdx_cons, List.zipIdx_nil, List.map_cons, List.map_nil, Nat.reduceAdd] at hT
  have hL := Vg.Loc.refl [] w0
  have hlen : ls.length = len := hsl.1
  refine c_seq ?_
  refine c_region ?_
  refine l_do rfl ?_
  refine w_alloc hT hL (by decide) Tryd.ty24 ?_; clear hT hL; intro b1 a w1 hT hL hE hB
  refine l_q hT (q_assign hT rfl) rfl rfl (by decide) ?_; clear hT; intro a hT
  refine l_end ?_
  refine then_norm ?_
  refine c_seq ?_
  refine c_region ?_
  refine l_q hT (q_move hT rfl) rfl rfl (by decide) ?_; clear hT; intro a hT
  refine l_do rfl ?_
  refine w_callT (xs := [.tmp 10]) hT rfl (vs := [(vI w)]) rfl (args := #[(vI w)]) rfl Tryd.func18 rfl rfl (by decide) ((tNew_ok w hw _).mono ?_)
  rintro e w2 ⟨bt1, rfl, hX⟩
  refine ⟨_, rfl, ?_⟩; clear hT; intro a hT; replace hT : Tm 27 a ((11, (Value.tuple #[(vp bt1 0), (vI 0)])) :: _) := hT
  replace hL : Vg.Loc [] w0 w2 ([[(bt1, ob [(vI w), (vI 0), (Value.pointer none)] 65)], [(b1, ob (digC Dig.zero) 24)]]) := hL.exts hX
  refine l_q hT (q_move hT rfl) rfl rfl (by decide) ?_; clear hT; intro a hT
  refine l_q hT (q_extract hT rfl rfl) rfl rfl (by decide) ?_; clear hT; intro a hT
  refine l_q hT (q_extract hT rfl rfl) rfl rfl (by decide) ?_; clear hT; intro a hT
  refine l_q hT (q_assign hT rfl) rfl rfl (by decide) ?_; clear hT; intro a hT
  refine l_q hT (q_assign hT rfl) rfl rfl (by decide) ?_; clear hT; intro a hT
  refine l_end ?_
  refine then_norm ?_
  refine c_seq ?_
  refine c_seq ?_
  refine c_region ?_
  refine l_q hT (q_move hT rfl) rfl rfl (by decide) ?_; clear hT; intro a hT
  refine l_q hT ((q_neq hT rfl rfl).b (b := false) rfl) rfl rfl (by decide) ?_; clear hT; intro a hT
  refine l_end ?_
  refine then_norm ?_
  refine c_false hT rfl rfl ?_
  refine wp_skip ?_
  refine then_norm ?_
  refine c_seq ?_
  refine c_seq ?_
  refine c_region ?_
  refine l_q hT (q_move hT rfl) rfl rfl (by decide) ?_; clear hT; intro a hT
  refine l_q hT (q_move hT rfl) rfl rfl (by decide) ?_; clear hT; intro a hT
  refine l_do rfl ?_
  refine w_callT (xs := [.tmp 18, .tmp 19]) hT rfl (vs := [(vp bt1 0), (Value.slice p len cap)]) rfl (args := #[(vp bt1 0), (Value.slice p len cap)]) rfl Tryd.func19 rfl rfl (by decide) ((Set_twice htw bt1 w ls p len cap hc htt _ (hsl.ext hL) (fun h0 ad hp hm => by simp at hm; obtain ⟨b9, o9, hp9, hr9⟩ := hsl.2 h0; have h8 := (hr9 0 h0).lt; rw [hp] at hp9; cases hp9; have := hL.fresh 0 rfl; simp only at hm; omega) (hL.get 0 rfl)).mono ?_)
  rintro e w3 ⟨rfl, hX⟩
  refine ⟨_, rfl, ?_⟩; clear hT; intro a hT; replace hT : Tm 27 a ((20, (vI 30)) :: _) := hT
  replace hL : Vg.Loc [] w0 w3 ([[(b1, ob (digC Dig.zero) 24)]]) := Vg.Loc.call (ci := [[(bt1, ob [(vI w), (vI 0), (Value.pointer none)] 65)]]) (cr := [[(b1, ob (digC Dig.zero) 24)]]) hL hX
  refine l_q hT (q_assign hT rfl) rfl rfl (by decide) ?_; clear hT; intro a hT
  refine l_end ?_
  refine then_norm ?_
  refine c_seq ?_
  refine c_region ?_
  refine l_q hT (q_move hT rfl) rfl rfl (by decide) ?_; clear hT; intro a hT
  refine l_q hT ((q_neq hT rfl rfl).b (b := true) rfl) rfl rfl (by decide) ?_; clear hT; intro a hT
  refine l_end ?_
  refine then_norm ?_
  refine c_true hT rfl rfl ?_
  refine c_seq ?_
  refine c_region ?_
  refine l_q hT (q_build (ps := []) (pv := []) (v := .agg (digC Dig.zero).toArray) hT rfl (fun _ => by kernel_rfl)) rfl rfl (by decide) ?_; clear hT; intro a hT
  refine l_q hT (q_move hT rfl) rfl rfl (by decide) ?_; clear hT; intro a hT
  refine l_do rfl ?_
  refine w_store hT hL 0 (c := digC Dig.zero) rfl rfl Tryd.ty24 rfl (vs := digC Dig.zero) rfl rfl (by first | decide | (simp [arr32_len, arr8_len, digC_len]; done) | (simp [arr32_len, arr8_len, digC_len]; omega)) rfl (c' := digC Dig.zero) rfl ?_; clear hL; intro w4 hL hE
  replace hL : Vg.Loc [] w0 w4 ([[(b1, ob (digC Dig.zero) 24)]]) := hL
  refine l_q hT (q_assign hT rfl) rfl rfl (by decide) ?_; clear hT; intro a hT
  refine l_end ?_
  refine then_norm ?_
  refine wp_ret ?_
  refine then_ret ?_
  refine c_ret (vs := [(Value.agg (digC Dig.zero).toArray), (vI 30)]) (rs := [.cell 4 24, .tmp 5]) hT rfl (.agg rfl Tryd.ty24 (hL.rd 0 rfl 0 (ds := digC Dig.zero) rfl) rfl (.tmp rfl .nil)) ?_
  exact ⟨rfl, hL.drop⟩

set_option maxRecDepth 100000 in
set_option maxHeartbeats 4000000 in
theorem root_ok (htw : TwiceOK Tryd.prog 30) (w : Int) (ls : List Leaf) (p : Option Addr) (len cap : Nat) (hw : widthB w = true) (hc : len ≤ 4096) (htt : twins ls = false) (w0 : World) (hK : KeysAt w0) (hsl : SlT w0 p len 64 leafC noLeaf ls) :
    Calls Tryd.prog 8 #[(vI w), (Value.slice p len cap)] w0 fun e w' => e = .returned (.tuple #[dv (dg w 257 ls.reverse 0), vI 0]) ∧ Ext w0 w' := by
  refine c_enter (n := 27) (args := [(vI w), (Value.slice p len cap)]) Tryd.func8 rfl rfl (Nat.le_of_ble_eq_true rfl) rfl (fun a hT => ?_)
  simp only [List.zipIdx_cons, List.zipIdx_nil, List.map_cons, List.map_nil, Nat.reduceAdd] at hT
  have hL := Vg.Loc.refl [] w0
  have hlen : ls.length = len := hsl.1
  refine c_seq ?_
  refine c_region ?_
  refine l_do rfl ?_
  refine w_alloc hT hL (by decide) Tryd.ty24 ?_; clear hT hL; intro b1 a w1 hT hL hE hB
  refine l_q hT (q_assign hT rfl) rfl rfl (by decide) ?_; clear hT; intro a hT
  refine l_end ?_
  refine then_norm ?_
  refine c_seq ?_
  refine c_region ?_
  refine l_q hT (q_move hT rfl) rfl rfl (by decide) ?_; clear hT; intro a hT
  refine l_do rfl ?_
  refine w_callT (xs := [.tmp 10]) hT rfl (vs := [(vI w)]) rfl (args := #[(vI w)]) rfl Tryd.func18 rfl rfl (by decide) ((tNew_ok w hw _).mono ?_)
  rintro e w2 ⟨bt1, rfl, hX⟩
  refine ⟨_, rfl, ?_⟩; clear hT; intro a hT; replace hT : Tm 27 a ((11, (Value.tuple #[(vp bt1 0), (vI 0)])) :: _) := hT
  replace hL : Vg.Loc [] w0 w2 ([[(bt1, ob [(vI w), (vI 0), (Value.pointer none)] 65)], [(b1, ob (digC Dig.zero) 24)]]) := hL.exts hX
  refine l_q hT (q_move hT rfl) rfl rfl (by decide) ?_; clear hT; intro a hT
  refine l_q hT (q_extract hT rfl rfl) rfl rfl (by decide) ?_; clear hT; intro a hT
  refine l_q hT (q_extract hT rfl rfl) rfl rfl (by decide) ?_; clear hT; intro a hT
  refine l_q hT (q_assign hT rfl) rfl rfl (by decide) ?_; clear hT; intro a hT
  refine l_q hT (q_assign hT rfl) rfl rfl (by decide) ?_; clear hT; intro a hT
  refine l_end ?_
  refine then_norm ?_
  refine c_seq ?_
  refine c_seq ?_
  refine c_region ?_
  refine l_q hT (q_move hT rfl) rfl rfl (by decide) ?_; clear hT; intro a hT
  refine l_q hT ((q_neq hT rfl rfl).b (b := false) rfl) rfl rfl (by decide) ?_; clear hT; intro a hT
  refine l_end ?_
  refine then_norm ?_
  refine c_false hT rfl rfl ?_
  refine wp_skip ?_
  refine then_norm ?_
  refine c_seq ?_
  refine c_seq ?_
  refine c_region ?_
  refine l_q hT (q_move hT rfl) rfl rfl (by decide) ?_; clear hT; intro a hT
  refine l_q hT (q_move hT rfl) rfl rfl (by decide) ?_; clear hT; intro a hT
  refine l_do rfl ?_
  refine w_callT (xs := [.tmp 18, .tmp 19]) hT rfl (vs := [(vp bt1 0), (Value.slice p len cap)]) rfl (args := #[(vp bt1 0), (Value.slice p len cap)]) rfl Tryd.func19 rfl rfl (by decide) ((Set_ok htw bt1 w ls p len cap hc htt _ (hsl.ext hL) (fun h0 ad hp hm => by simp at hm; obtain ⟨b9, o9, hp9, hr9⟩ := hsl.2 h0; have h8 := (hr9 0 h0).lt; rw [hp] at hp9; cases hp9; have := hL.fresh 0 rfl; simp only at hm; omega) (hL.get 0 rfl)).mono ?_)
  rintro e w3 ⟨t1, rfl, hX, hrep1⟩
  refine ⟨_, rfl, ?_⟩; clear hT; intro a hT; replace hT : Tm 27 a ((20, (vI 0)) :: _) := hT
  replace hL : Vg.Loc [] w0 w3 ([[(bt1, ob [(vI w), (vI (len : Int)), (Value.pointer t1.ad)] 65)], t1.ents 98, [(b1, ob (digC Dig.zero) 24)]]) := Vg.Loc.call (ci := [[(bt1, ob [(vI w), (vI 0), (Value.pointer none)] 65)]]) (cr := [[(b1, ob (digC Dig.zero) 24)]]) hL hX
  refine l_q hT (q_assign hT rfl) rfl rfl (by decide) ?_; clear hT; intro a hT
  refine l_end ?_
  refine then_norm ?_
  refine c_seq ?_
  refine c_region ?_
  refine l_q hT (q_move hT rfl) rfl rfl (by decide) ?_; clear hT; intro a hT
  refine l_q hT ((q_neq hT rfl rfl).b (b := false) rfl) rfl rfl (by decide) ?_; clear hT; intro a hT
  refine l_end ?_
  refine then_norm ?_
  refine c_false hT rfl rfl ?_
  refine wp_skip ?_
  refine then_norm ?_
  refine c_seq ?_
  refine c_region ?_
  refine l_q hT (q_move hT rfl) rfl rfl (by decide) ?_; clear hT; intro a hT
  refine l_do rfl ?_
  replace hL : Vg.Loc [] w0 w3 ([t1.ents 98, [(bt1, ob [(vI w), (vI (len : Int)), (Value.pointer t1.ad)] 65)], [(b1, ob (digC Dig.zero) 24)]]) := hL.front 1 rfl rfl
  refine w_callT (xs := [.tmp 25]) hT rfl (vs := [(vp bt1 0)]) rfl (args := #[(vp bt1 0)]) rfl Tryd.func20 rfl rfl (by decide) ((tRoot_spec bt1 w (len : Int) t1 (dig_ok w t1 _ _ hrep1) _ (KeysAt.of hK hL (by simp)) (hL.zero_app (ci := [t1.ents 98]) hK.lt (by simp)) (hL.rd 1 rfl 0 rfl) (hL.apart0 (i := 0) rfl) (Vg.Loc.self (cs := [t1.ents 98]) hL)).mono ?_)
  rintro e w4 ⟨rfl, hX⟩
  refine ⟨_, rfl, ?_⟩; clear hT; intro a hT; replace hT : Tm 27 a ((26, (Value.agg (digC (t1.dig w)).toArray)) :: _) := hT
  replace hL : Vg.Loc [] w0 w4 ([[(bt1, ob [(vI w), (vI (len : Int)), (Value.pointer t1.ad)] 65)], [(b1, ob (digC Dig.zero) 24)]]) := Vg.Loc.call (ci := [t1.ents 98]) (cr := [[(bt1, ob [(vI w), (vI (len : Int)), (Value.pointer t1.ad)] 65)], [(b1, ob (digC Dig.zero) 24)]]) hL hX
  refine l_do rfl ?_
  refine w_store hT hL 1 (c := digC Dig.zero) rfl rfl Tryd.ty24 rfl (vs := digC (t1.dig w)) rfl rfl (by first | decide | (simp [arr32_len, arr8_len, digC_len]; done) | (simp [arr32_len, arr8_len, digC_len]; omega)) rfl (c' := digC (t1.dig w)) rfl ?_; clear hL; intro w5 hL hE
  replace hL : Vg.Loc [] w0 w5 ([[(bt1, ob [(vI w), (vI (len : Int)), (Value.pointer t1.ad)] 65)], [(b1, ob (digC (t1.dig w)) 24)]]) := hL
  refine l_q hT (q_assign hT rfl) rfl rfl (by decide) ?_; clear hT; intro a hT
  refine l_end ?_
  refine then_norm ?_
  refine wp_ret ?_
  refine c_ret (vs := [(Value.agg (digC (t1.dig w)).toArray), (vI 0)]) (rs := [.cell 4 24, .tmp 5]) hT rfl (.agg rfl Tryd.ty24 (hL.rd 1 rfl 0 (ds := digC (t1.dig w)) rfl) rfl (.tmp rfl .nil)) ?_
  exact ⟨by simp only [packed, Rep.dig t1 _ _ 257 hrep1 (by have := twins_good htt len; rwa [List.take_of_length_le (by omega)] at this) (by omega) (by omega)], hL.drop⟩

theorem root_spec (htw : TwiceOK Tryd.prog 30) (w : Int) (ls : List Leaf) (p : Option Addr) (len cap : Nat) (w0 : World) (hK : KeysAt w0) (hsl : SlT w0 p len 64 leafC noLeaf ls) :
    Calls Tryd.prog 8 #[vI w, .slice p len cap] w0 fun e w' => e = .returned (.tuple #[dv (rootD w ls), vI (rootE w ls)]) ∧ Ext w0 w' := by
  have hlen : ls.length = len := hsl.1
  unfold rootD rootE
  rw [hlen]
  by_cases hw : widthB w = false
  · rw [if_pos hw, if_neg (by decide)]; exact root_arg htw w ls p len cap hw w0 hK hsl
  · have hw1 : widthB w = true := by simpa using hw
    rw [if_neg hw]
    by_cases hc : 4096 < len
    · rw [if_pos hc, if_neg (by decide)]; exact root_limit htw w ls p len cap hw1 hc w0 hK hsl
    · rw [if_neg hc]
      by_cases htt : twins ls = true
      · rw [if_pos htt, if_neg (by decide)]; exact root_twice htw w ls p len cap hw1 (by omega) htt w0 hK hsl
      · rw [if_neg htt, if_pos rfl]; exact root_ok htw w ls p len cap hw1 (by omega) (by simpa using htt) w0 hK hsl

end Go.Proofs.YtcaffacganffjaaDoor
end
