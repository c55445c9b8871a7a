/- The walks of a part of the program: GDig2. Printed by a program of the prover. -/
import Derived.Test.YtcaffacganffjaaDoorVDig
import Derived.Test.YtcaffacganffjaaDoorVTypes
import Derived.Test.YtcaffacganffjaaDoorGDig
namespace Go.Proofs.YtcaffacganffjaaDoor
open Go Go.Vg


set_option maxRecDepth 100000 in
set_option maxHeartbeats 4000000 in
theorem dig_leaf (b : Nat) (w : Int) (l : Leaf) (w0 : World) (hK : KeysAt w0) (h0 : 0 ∉ (keys [(KT.leaf b l).ents 98])) (hL0 : Vg.Loc (keys [(KT.leaf b l).ents 98]) w0 w0 [(KT.leaf b l).ents 98]) :
    Calls Tryd.prog 33 #[(vp b 0), (vI w)] w0 fun e w' => e = .returned (dv (leafD w l)) ∧ Vg.Loc (keys [(KT.leaf b l).ents 98]) w0 w' [] := by
  refine c_enter (n := 20) (args := [(vp b 0), (vI w)]) Tryd.func33 rfl rfl (Nat.le_of_ble_eq_true rfl) rfl (fun a hT => ?_)
  simp only [List.zipIdx_cons, List.zipIdx_nil, List.map_cons, List.map_nil, Nat.reduceAdd] at hT
  have hL : Vg.Loc (keys [(KT.leaf b l).ents 98]) w0 w0 [[(b, ob ([(v32 0), (Value.int .i32 0), (v32 0)] ++ (digC Dig.zero ++ (digC l.p ++ (digC l.v ++ ([(Value.pointer none), (Value.pointer none)]))))) 98)]] := hL0.regroup (by simp [KT.ents, knotC, noLeaf, KT.ad])
  refine c_seq ?_
  refine c_region ?_
  refine l_do rfl ?_
  refine w_box hT hL (by decide) rfl (c := [(vp b 0)]) rfl ?_; clear hT hL; intro b1 a w1 hT hL hE hB
  refine l_do rfl ?_
  refine w_box hT hL (by decide) rfl (c := [(vI w)]) rfl ?_; clear hT hL; intro b2 a w2 hT hL hE hB
  refine l_do rfl ?_
  refine w_alloc hT hL (by decide) Tryd.ty24 ?_; clear hT hL; intro b3 a w3 hT hL hE hB
  refine l_end ?_
  refine then_norm ?_
  refine c_seq ?_
  refine c_seq ?_
  refine c_region ?_
  refine l_q hT (q_load hT rfl Tryd.ty63 (hL.rd 2 rfl 0 (ds := [(vp b 0)]) rfl)) rfl rfl (by decide) ?_; clear hT; intro a hT
  refine l_q hT ((q_eq_nil hT rfl rfl Tryd.underlying63).b (b := false) rfl) rfl rfl (by decide) ?_; clear hT; intro a hT
  refine l_end ?_
  refine then_norm ?_
  refine c_false hT rfl rfl ?_
  refine wp_skip ?_
  refine then_norm ?_
  refine c_seq ?_
  refine c_region ?_
  refine l_q hT (q_load hT rfl Tryd.ty63 (hL.rd 2 rfl 0 (ds := [(vp b 0)]) rfl)) rfl rfl (by decide) ?_; clear hT; intro a hT
  refine l_q hT (q_nilCheck hT rfl) rfl rfl (by decide) ?_; clear hT; intro a hT
  refine l_q hT (q_fieldAddr hT rfl Tryd.fld98_0 rfl) rfl rfl (by decide) ?_; clear hT; intro a hT
  refine l_q hT (q_fieldAddr hT rfl Tryd.fld96_0 rfl) rfl rfl (by decide) ?_; clear hT; intro a hT
  refine l_q hT (q_makeFunc (fs := []) (cs := [.tmp 2, .tmp 3]) hT rfl rfl) rfl rfl (by decide) ?_; clear hT; intro a hT
  refine l_do rfl ?_
  replace hL : Vg.Loc (keys [(KT.leaf b l).ents 98]) w0 w3 ([[(b2, ob [(vI w)] 3)], [(b3, ob (digC Dig.zero) 24)], [(b1, ob [(vp b 0)] 63)], [(b, ob ([(v32 0), (Value.int .i32 0), (v32 0)] ++ (digC Dig.zero ++ (digC l.p ++ (digC l.v ++ ([(Value.pointer none), (Value.pointer none)]))))) 98)]]) := hL.front 1 rfl rfl
  replace hL : Vg.Loc (keys [(KT.leaf b l).ents 98]) w0 w3 ([[(b1, ob [(vp b 0)] 63)], [(b2, ob [(vI w)] 3)], [(b3, ob (digC Dig.zero) 24)], [(b, ob ([(v32 0), (Value.int .i32 0), (v32 0)] ++ (digC Dig.zero ++ (digC l.p ++ (digC l.v ++ ([(Value.pointer none), (Value.pointer none)]))))) 98)]]) := hL.front 2 rfl rfl
  replace hL : Vg.Loc (keys [(KT.leaf b l).ents 98]) w0 w3 ([[(b, ob ([(v32 0), (Value.int .i32 0), (v32 0)] ++ (digC Dig.zero ++ (digC l.p ++ (digC l.v ++ ([(Value.pointer none), (Value.pointer none)]))))) 98)], [(b1, ob [(vp b 0)] 63)], [(b2, ob [(vI w)] 3)], [(b3, ob (digC Dig.zero) 24)]]) := hL.front 3 rfl rfl
  refine w_callT (xs := [.tmp 12, .tmp 13]) hT rfl (vs := [(vp b 0), (Value.func (Fn.func 48) #[] #[(vp b1 0), (vp b2 0)])]) rfl (args := #[(vp b 0), (Value.func (Fn.func 48) #[] #[(vp b1 0), (vp b2 0)])]) rfl Tryd.func47 rfl rfl (by decide) ((Do_spec b b1 b2 (leafD w l) l none none [[(b1, ob [(vp b 0)] 63)], [(b2, ob [(vI w)] 3)]] [[(b1, ob [(vp b 0)] 63)], [(b2, ob [(vI w)] 3)]] _ (Vg.Loc.self (cs := [[(b, ob ([(v32 0), (Value.int .i32 0), (v32 0)] ++ (digC Dig.zero ++ (digC l.p ++ (digC l.v ++ ([(Value.pointer none), (Value.pointer none)]))))) 98)], [(b1, ob [(vp b 0)] 63)], [(b2, ob [(vI w)] 3)]]) hL) (fun w1 h1 => clo_leaf b b1 b2 w l w1 (KeysAt.of (KeysAt.of hK hL h0) h1 (hL.zero_app (ci := [[(b, ob ([(v32 0), (Value.int .i32 0), (v32 0)] ++ (digC Dig.zero ++ (digC l.p ++ (digC l.v ++ ([(Value.pointer none), (Value.pointer none)]))))) 98)], [(b1, ob [(vp b 0)] 63)], [(b2, ob [(vI w)] 3)]]) hK.lt h0)) (hL.zero_app (ci := [[(b, ob ([(v32 0), (Value.int .i32 0), (v32 0)] ++ (digC Dig.zero ++ (digC l.p ++ (digC l.v ++ ([(Value.pointer none), (Value.pointer none)]))))) 98)], [(b1, ob [(vp b 0)] 63)], [(b2, ob [(vI w)] 3)]]) hK.lt h0) (Vg.Loc.self_all h1))).mono ?_)
  rintro e w4 ⟨rfl, hX⟩
  refine ⟨_, rfl, ?_⟩; clear hT; intro a hT; replace hT : Tm 20 a ((14, (Value.tuple #[])) :: _) := hT
  replace hL : Vg.Loc (keys [(KT.leaf b l).ents 98]) w0 w4 ([[(b, ob ([(v32 1), (Value.int .i32 0), (v32 0)] ++ (digC (leafD w l) ++ (digC l.p ++ (digC l.v ++ ([(Value.pointer none), (Value.pointer none)]))))) 98)], [(b1, ob [(vp b 0)] 63)], [(b2, ob [(vI w)] 3)], [(b3, ob (digC Dig.zero) 24)]]) := Vg.Loc.call (ci := [[(b, ob ([(v32 0), (Value.int .i32 0), (v32 0)] ++ (digC Dig.zero ++ (digC l.p ++ (digC l.v ++ ([(Value.pointer none), (Value.pointer none)]))))) 98)], [(b1, ob [(vp b 0)] 63)], [(b2, ob [(vI w)] 3)]]) (cr := [[(b3, ob (digC Dig.zero) 24)]]) hL hX
  refine l_end ?_
  refine then_norm ?_
  refine c_seq ?_
  refine c_region ?_
  refine l_q hT (q_load hT rfl Tryd.ty63 (hL.rd 1 rfl 0 (ds := [(vp b 0)]) rfl)) rfl rfl (by decide) ?_; clear hT; intro a hT
  refine l_q hT (q_nilCheck hT rfl) rfl rfl (by decide) ?_; clear hT; intro a hT
  refine l_q hT (q_fieldAddr hT rfl Tryd.fld98_0 rfl) rfl rfl (by decide) ?_; clear hT; intro a hT
  refine l_q hT (q_fieldAddr hT rfl Tryd.fld96_1 rfl) rfl rfl (by decide) ?_; clear hT; intro a hT
  refine l_q hT (q_load_agg hT rfl Tryd.ty24 (hL.rd 0 rfl 3 (ds := digC (leafD w l)) rfl) rfl) rfl rfl (by decide) ?_; clear hT; intro a hT
  refine l_do rfl ?_
  refine w_store hT hL 3 (c := digC Dig.zero) rfl rfl Tryd.ty24 rfl (vs := digC (leafD w l)) rfl rfl (by first | decide | (simp [arr32_len, arr8_len, digC_len]; done) | (simp [arr32_len, arr8_len, digC_len]; omega)) rfl (c' := digC (leafD w l)) rfl ?_; clear hL; intro w5 hL hE
  replace hL : Vg.Loc (keys [(KT.leaf b l).ents 98]) w0 w5 ([[(b, ob ([(v32 1), (Value.int .i32 0), (v32 0)] ++ (digC (leafD w l) ++ (digC l.p ++ (digC l.v ++ ([(Value.pointer none), (Value.pointer none)]))))) 98)], [(b1, ob [(vp b 0)] 63)], [(b2, ob [(vI w)] 3)], [(b3, ob (digC (leafD w l)) 24)]]) := hL
  refine l_end ?_
  refine then_norm ?_
  refine wp_ret ?_
  refine c_ret (vs := [(Value.agg (digC (leafD w l)).toArray)]) (rs := [.cell 4 24]) hT rfl (.agg rfl Tryd.ty24 (hL.rd 3 rfl 0 (ds := digC (leafD w l)) rfl) rfl .nil) ?_
  exact ⟨rfl, hL.drop⟩

set_option maxRecDepth 100000 in
set_option maxHeartbeats 4000000 in
theorem dig_node (b : Nat) (w : Int) (x y : KT) (hsome : (x.ad.isSome || y.ad.isSome) = true) (ihx : DigAt Tryd.prog 33 98 x w) (ihy : DigAt Tryd.prog 33 98 y w) (w0 : World) (hK : KeysAt w0) (h0 : 0 ∉ (keys [(KT.node b x y).ents 98])) (hL0 : Vg.Loc (keys [(KT.node b x y).ents 98]) w0 w0 [(KT.node b x y).ents 98]) :
    Calls Tryd.prog 33 #[(vp b 0), (vI w)] w0 fun e w' => e = .returned (dv (nodeD w (x.dig w) (y.dig w))) ∧ Vg.Loc (keys [(KT.node b x y).ents 98]) w0 w' [] := by
  refine c_enter (n := 20) (args := [(vp b 0), (vI w)]) Tryd.func33 rfl rfl (Nat.le_of_ble_eq_true rfl) rfl (fun a hT => ?_)
  simp only [List.zipIdx_cons, List.zipIdx_nil, List.map_cons, List.map_nil, Nat.reduceAdd] at hT
  have hL : Vg.Loc (keys [(KT.node b x y).ents 98]) w0 w0 [[(b, ob ([(v32 0), (Value.int .i32 0), (v32 0)] ++ (digC Dig.zero ++ (digC noLeaf.p ++ (digC noLeaf.v ++ ([(Value.pointer x.ad), (Value.pointer y.ad)]))))) 98)], (x.ents 98), (y.ents 98)] := hL0.regroup (by simp [KT.ents, knotC, noLeaf, KT.ad])
  refine c_seq ?_
  refine c_region ?_
  refine l_do rfl ?_
  refine w_box hT hL (by decide) rfl (c := [(vp b 0)]) rfl ?_; clear hT hL; intro b1 a w1 hT hL hE hB
  refine l_do rfl ?_
  refine w_box hT hL (by decide) rfl (c := [(vI w)]) rfl ?_; clear hT hL; intro b2 a w2 hT hL hE hB
  refine l_do rfl ?_
  refine w_alloc hT hL (by decide) Tryd.ty24 ?_; clear hT hL; intro b3 a w3 hT hL hE hB
  refine l_end ?_
  refine then_norm ?_
  refine c_seq ?_
  refine c_seq ?_
  refine c_region ?_
  refine l_q hT (q_load hT rfl Tryd.ty63 (hL.rd 2 rfl 0 (ds := [(vp b 0)]) rfl)) rfl rfl (by decide) ?_; clear hT; intro a hT
  refine l_q hT ((q_eq_nil hT rfl rfl Tryd.underlying63).b (b := false) rfl) rfl rfl (by decide) ?_; clear hT; intro a hT
  refine l_end ?_
  refine then_norm ?_
  refine c_false hT rfl rfl ?_
  refine wp_skip ?_
  refine then_norm ?_
  refine c_seq ?_
  refine c_region ?_
  refine l_q hT (q_load hT rfl Tryd.ty63 (hL.rd 2 rfl 0 (ds := [(vp b 0)]) rfl)) rfl rfl (by decide) ?_; clear hT; intro a hT
  refine l_q hT (q_nilCheck hT rfl) rfl rfl (by decide) ?_; clear hT; intro a hT
  refine l_q hT (q_fieldAddr hT rfl Tryd.fld98_0 rfl) rfl rfl (by decide) ?_; clear hT; intro a hT
  refine l_q hT (q_fieldAddr hT rfl Tryd.fld96_0 rfl) rfl rfl (by decide) ?_; clear hT; intro a hT
  refine l_q hT (q_makeFunc (fs := []) (cs := [.tmp 2, .tmp 3]) hT rfl rfl) rfl rfl (by decide) ?_; clear hT; intro a hT
  refine l_do rfl ?_
  replace hL : Vg.Loc (keys [(KT.node b x y).ents 98]) w0 w3 ([[(b2, ob [(vI w)] 3)], [(b3, ob (digC Dig.zero) 24)], [(b1, ob [(vp b 0)] 63)], [(b, ob ([(v32 0), (Value.int .i32 0), (v32 0)] ++ (digC Dig.zero ++ (digC noLeaf.p ++ (digC noLeaf.v ++ ([(Value.pointer x.ad), (Value.pointer y.ad)]))))) 98)], (x.ents 98), (y.ents 98)]) := hL.front 1 rfl rfl
  replace hL : Vg.Loc (keys [(KT.node b x y).ents 98]) w0 w3 ([[(b1, ob [(vp b 0)] 63)], [(b2, ob [(vI w)] 3)], [(b3, ob (digC Dig.zero) 24)], [(b, ob ([(v32 0), (Value.int .i32 0), (v32 0)] ++ (digC Dig.zero ++ (digC noLeaf.p ++ (digC noLeaf.v ++ ([(Value.pointer x.ad), (Value.pointer y.ad)]))))) 98)], (x.ents 98), (y.ents 98)]) := hL.front 2 rfl rfl
  replace hL : Vg.Loc (keys [(KT.node b x y).ents 98]) w0 w3 ([(y.ents 98), [(b1, ob [(vp b 0)] 63)], [(b2, ob [(vI w)] 3)], [(b3, ob (digC Dig.zero) 24)], [(b, ob ([(v32 0), (Value.int .i32 0), (v32 0)] ++ (digC Dig.zero ++ (digC noLeaf.p ++ (digC noLeaf.v ++ ([(Value.pointer x.ad), (Value.pointer y.ad)]))))) 98)], (x.ents 98)]) := hL.front 5 rfl rfl
  replace hL : Vg.Loc (keys [(KT.node b x y).ents 98]) w0 w3 ([(x.ents 98), (y.ents 98), [(b1, ob [(vp b 0)] 63)], [(b2, ob [(vI w)] 3)], [(b3, ob (digC Dig.zero) 24)], [(b, ob ([(v32 0), (Value.int .i32 0), (v32 0)] ++ (digC Dig.zero ++ (digC noLeaf.p ++ (digC noLeaf.v ++ ([(Value.pointer x.ad), (Value.pointer y.ad)]))))) 98)]]) := hL.front 5 rfl rfl
  replace hL : Vg.Loc (keys [(KT.node b x y).ents 98]) w0 w3 ([[(b, ob ([(v32 0), (Value.int .i32 0), (v32 0)] ++ (digC Dig.zero ++ (digC noLeaf.p ++ (digC noLeaf.v ++ ([(Value.pointer x.ad), (Value.pointer y.ad)]))))) 98)], (x.ents 98), (y.ents 98), [(b1, ob [(vp b 0)] 63)], [(b2, ob [(vI w)] 3)], [(b3, ob (digC Dig.zero) 24)]]) := hL.front 5 rfl rfl
  refine w_callT (xs := [.tmp 12, .tmp 13]) hT rfl (vs := [(vp b 0), (Value.func (Fn.func 48) #[] #[(vp b1 0), (vp b2 0)])]) rfl (args := #[(vp b 0), (Value.func (Fn.func 48) #[] #[(vp b1 0), (vp b2 0)])]) rfl Tryd.func47 rfl rfl (by decide) ((Do_spec b b1 b2 (nodeD w (x.dig w) (y.dig w)) noLeaf x.ad y.ad [(x.ents 98), (y.ents 98), [(b1, ob [(vp b 0)] 63)], [(b2, ob [(vI w)] 3)]] [[(b1, ob [(vp b 0)] 63)], [(b2, ob [(vI w)] 3)]] _ (Vg.Loc.self (cs := [[(b, ob ([(v32 0), (Value.int .i32 0), (v32 0)] ++ (digC Dig.zero ++ (digC noLeaf.p ++ (digC noLeaf.v ++ ([(Value.pointer x.ad), (Value.pointer y.ad)]))))) 98)], (x.ents 98), (y.ents 98), [(b1, ob [(vp b 0)] 63)], [(b2, ob [(vI w)] 3)]]) hL) (fun w1 h1 => clo_node b b1 b2 w x y hsome ihx ihy w1 (KeysAt.of (KeysAt.of hK hL h0) h1 (hL.zero_app (ci := [[(b, ob ([(v32 0), (Value.int .i32 0), (v32 0)] ++ (digC Dig.zero ++ (digC noLeaf.p ++ (digC noLeaf.v ++ ([(Value.pointer x.ad), (Value.pointer y.ad)]))))) 98)], (x.ents 98), (y.ents 98), [(b1, ob [(vp b 0)] 63)], [(b2, ob [(vI w)] 3)]]) hK.lt h0)) (hL.zero_app (ci := [[(b, ob ([(v32 0), (Value.int .i32 0), (v32 0)] ++ (digC Dig.zero ++ (digC noLeaf.p ++ (digC noLeaf.v ++ ([(Value.pointer x.ad), (Value.pointer y.ad)]))))) 98)], (x.ents 98), (y.ents 98), [(b1, ob [(vp b 0)] 63)], [(b2, ob [(vI w)] 3)]]) hK.lt h0) (Vg.Loc.self_all h1))).mono ?_)
  rintro e w4 ⟨rfl, hX⟩
  refine ⟨_, rfl, ?_⟩; clear hT; intro a hT; replace hT : Tm 20 a ((14, (Value.tuple #[])) :: _) := hT
  replace hL : Vg.Loc (keys [(KT.node b x y).ents 98]) w0 w4 ([[(b, ob ([(v32 1), (Value.int .i32 0), (v32 0)] ++ (digC (nodeD w (x.dig w) (y.dig w)) ++ (digC noLeaf.p ++ (digC noLeaf.v ++ ([(Value.pointer x.ad), (Value.pointer y.ad)]))))) 98)], [(b1, ob [(vp b 0)] 63)], [(b2, ob [(vI w)] 3)], [(b3, ob (digC Dig.zero) 24)]]) := Vg.Loc.call (ci := [[(b, ob ([(v32 0), (Value.int .i32 0), (v32 0)] ++ (digC Dig.zero ++ (digC noLeaf.p ++ (digC noLeaf.v ++ ([(Value.pointer x.ad), (Value.pointer y.ad)]))))) 98)], (x.ents 98), (y.ents 98), [(b1, ob [(vp b 0)] 63)], [(b2, ob [(vI w)] 3)]]) (cr := [[(b3, ob (digC Dig.zero) 24)]]) hL hX
  refine l_end ?_
  refine then_norm ?_
  refine c_seq ?_
  refine c_region ?_
  refine l_q hT (q_load hT rfl Tryd.ty63 (hL.rd 1 rfl 0 (ds := [(vp b 0)]) rfl)) rfl rfl (by decide) ?_; clear hT; intro a hT
  refine l_q hT (q_nilCheck hT rfl) rfl rfl (by decide) ?_; clear hT; intro a hT
  refine l_q hT (q_fieldAddr hT rfl Tryd.fld98_0 rfl) rfl rfl (by decide) ?_; clear hT; intro a hT
  refine l_q hT (q_fieldAddr hT rfl Tryd.fld96_1 rfl) rfl rfl (by decide) ?_; clear hT; intro a hT
  refine l_q hT (q_load_agg hT rfl Tryd.ty24 (hL.rd 0 rfl 3 (ds := digC (nodeD w (x.dig w) (y.dig w))) rfl) rfl) rfl rfl (by decide) ?_; clear hT; intro a hT
  refine l_do rfl ?_
  refine w_store hT hL 3 (c := digC Dig.zero) rfl rfl Tryd.ty24 rfl (vs := digC (nodeD w (x.dig w) (y.dig w))) rfl rfl (by first | decide | (simp [arr32_len, arr8_len, digC_len]; done) | (simp [arr32_len, arr8_len, digC_len]; omega)) rfl (c' := digC (nodeD w (x.dig w) (y.dig w))) rfl ?_; clear hL; intro w5 hL hE
  replace hL : Vg.Loc (keys [(KT.node b x y).ents 98]) w0 w5 ([[(b, ob ([(v32 1), (Value.int .i32 0), (v32 0)] ++ (digC (nodeD w (x.dig w) (y.dig w)) ++ (digC noLeaf.p ++ (digC noLeaf.v ++ ([(Value.pointer x.ad), (Value.pointer y.ad)]))))) 98)], [(b1, ob [(vp b 0)] 63)], [(b2, ob [(vI w)] 3)], [(b3, ob (digC (nodeD w (x.dig w) (y.dig w))) 24)]]) := hL
  refine l_end ?_
  refine then_norm ?_
  refine wp_ret ?_
  refine c_ret (vs := [(Value.agg (digC (nodeD w (x.dig w) (y.dig w))).toArray)]) (rs := [.cell 4 24]) hT rfl (.agg rfl Tryd.ty24 (hL.rd 3 rfl 0 (ds := digC (nodeD w (x.dig w) (y.dig w))) rfl) rfl .nil) ?_
  exact ⟨rfl, hL.drop⟩

set_option maxRecDepth 20000 in
set_option maxHeartbeats 1000000 in
theorem dig_nil (w : Int) (w0 : World) (hK : KeysAt w0) :
    Calls Tryd.prog 33 #[(Value.pointer none), (vI w)] w0 fun e w' => e = .returned (dv (emptyD w)) ∧ Ext w0 w' := by
  refine c_enter (n := 20) (args := [(Value.pointer none), (vI w)]) Tryd.func33 rfl rfl (Nat.le_of_ble_eq_true rfl) rfl (fun a hT => ?_)
  simp only [List.zipIdx_cons, List.zipIdx_nil, List.map_cons, List.map_nil, Nat.reduceAdd] at hT
  have hL := Vg.Loc.refl [] w0
  refine c_seq ?_
  refine c_region ?_
  refine l_do rfl ?_
  refine w_box hT hL (by decide) rfl (c := [(Value.pointer none)]) rfl ?_; clear hT hL; intro b1 a w1 hT hL hE hB
  refine l_do rfl ?_
  refine w_box hT hL (by decide) rfl (c := [(vI w)]) rfl ?_; clear hT hL; intro b2 a w2 hT hL hE hB
  refine l_do rfl ?_
  refine w_alloc hT hL (by decide) Tryd.ty24 ?_; clear hT hL; intro b3 a w3 hT hL hE hB
  refine l_end ?_
  refine then_norm ?_
  refine c_seq ?_
  refine c_seq ?_
  refine c_region ?_
  refine l_q hT (q_load hT rfl Tryd.ty63 (hL.rd 2 rfl 0 (ds := [(Value.pointer none)]) rfl)) rfl rfl (by decide) ?_; clear hT; intro a hT
  refine l_q hT ((q_eq_nil hT rfl rfl Tryd.underlying63).b (b := true) rfl) rfl rfl (by decide) ?_; clear hT; intro a hT
  refine l_end ?_
  refine then_norm ?_
  refine c_true hT rfl rfl ?_
  refine c_seq ?_
  refine c_region ?_
  refine l_q hT (q_load hT rfl Tryd.ty3 (hL.rd 1 rfl 0 (ds := [(vI w)]) rfl)) rfl rfl (by decide) ?_; clear hT; intro a hT
  refine l_do rfl ?_
  refine w_callT (xs := [.tmp 7]) hT rfl (vs := [(vI w)]) rfl (args := #[(vI w)]) rfl Tryd.func21 rfl rfl (by decide) ((Empty_spec (w) _ (hK.of hL (by simp))).mono ?_)
  rintro e w4 ⟨rfl, hX⟩
  refine ⟨_, rfl, ?_⟩; clear hT; intro a hT; replace hT : Tm 20 a ((8, (Value.agg (digC (emptyD w)).toArray)) :: _) := hT
  replace hL := hL.ext hX
  refine l_do rfl ?_
  refine w_store hT hL 0 (c := digC Dig.zero) rfl rfl Tryd.ty24 rfl (vs := digC (emptyD w)) rfl rfl (by first | decide | (simp [arr32_len, arr8_len, digC_len]; done) | (simp [arr32_len, arr8_len, digC_len]; omega)) rfl (c' := digC (emptyD w)) rfl ?_; clear hL; intro w5 hL hE
  replace hL : Vg.Loc [] w0 w5 ([[(b3, ob (digC (emptyD w)) 24)], [(b2, ob [(vI w)] 3)], [(b1, ob [(Value.pointer none)] 63)]]) := hL
  refine l_end ?_
  refine then_norm ?_
  refine wp_ret ?_
  refine then_ret ?_
  refine c_ret (vs := [(Value.agg (digC (emptyD w)).toArray)]) (rs := [.cell 4 24]) hT rfl (.agg rfl Tryd.ty24 (hL.rd 0 rfl 0 (ds := digC (emptyD w)) rfl) rfl .nil) ?_
  exact ⟨rfl, hL.drop⟩

theorem dig_ok (w : Int) : ∀ (t : KT) (S : List Leaf) (n : Nat), Rep t S n → DigAt Tryd.prog 33 98 t w
  | .nil, _, _, _ => fun w0 hK h0 hL => (dig_nil w w0 hK).mono fun e w' ⟨h1, h2⟩ => ⟨h1, Vg.Loc.call_all hL (Vg.Loc.mono_ext h2)⟩
  | .leaf b l, _, _, _ => fun w0 hK h0 hL => dig_leaf b w l w0 hK h0 hL
  | .node b x y, _, _, hr => fun w0 hK h0 hL => dig_node b w x y hr.some (dig_ok w x _ _ hr.2.1) (dig_ok w y _ _ hr.2.2) w0 hK h0 hL

end Go.Proofs.YtcaffacganffjaaDoor
