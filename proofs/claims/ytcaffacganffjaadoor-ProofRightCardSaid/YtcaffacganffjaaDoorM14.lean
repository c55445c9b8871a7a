/- The walks of a part of the program: GChk5. Printed by a program of the prover. The walks of a part of the program: GClone. Printed by a program of the prover. slices.SortFunc of leaves: the contract of the kit's shelf, laid over this program in plain words. Written by a program of the kit. -/
import Derived.Test.YtcaffacganffjaaDoorM2
import Derived.Test.YtcaffacganffjaaDoorM6
import Derived.Test.YtcaffacganffjaaDoorM13
import Derived.Test.YtcaffacganffjaaDoorM4
import Derived.Test.YtcaffacganffjaaDoorM11
import Derived.Shelf.SlSortCmp.NoneTotal
import Derived.Ground.SlsfProg
import Derived.Test.YtcaffacganffjaaDoorChecked

section
namespace Go.Proofs.YtcaffacganffjaaDoor
open Go Go.Vg


set_option maxRecDepth 20000 in
set_option maxHeartbeats 1000000 in
theorem Check_form (s : Said) (q : Option Addr) (nd cq : Nat) (root : Dig) (hw : widthB s.w = true) (hnd : s.ds.length = nd) (hm : s.may = false) (w0 : World) :
    Calls Tryd.prog 10 #[(vI s.w), (Value.agg (digC root).toArray), (Value.agg (digC s.p).toArray), (Value.agg ([(Value.bool s.pr)] ++ (digC s.v)).toArray), (Value.agg ([(Value.slice q nd cq), (Value.bool s.o)] ++ (digC s.ox ++ (digC s.ov))).toArray)] w0 fun e w' => e = .returned (vI 40) ∧ Ext w0 w' := by
  refine c_enter (n := 18) (args := [(vI s.w), (Value.agg (digC root).toArray), (Value.agg (digC s.p).toArray), (Value.agg ([(Value.bool s.pr)] ++ (digC s.v)).toArray), (Value.agg ([(Value.slice q nd cq), (Value.bool s.o)] ++ (digC s.ox ++ (digC s.ov))).toArray)]) Tryd.func10 rfl rfl (Nat.le_of_ble_eq_true rfl) rfl (fun a hT => ?_)
  simp only [List.zipIdx_cons, List.zipIdx_nil, List.map_cons, List.map_nil, Nat.reduceAdd] at hT
  have hL := Vg.Loc.refl [] w0
  refine c_seq ?_
  refine c_region ?_
  refine l_do rfl ?_
  refine w_box hT hL (by decide) rfl (c := digC root) rfl ?_; clear hT hL; intro b1 a w1 hT hL hE hB
  refine l_do rfl ?_
  refine w_box hT hL (by decide) rfl (c := digC s.p) rfl ?_; clear hT hL; intro b2 a w2 hT hL hE hB
  refine l_do rfl ?_
  refine w_box hT hL (by decide) rfl (c := [(Value.bool s.pr)] ++ (digC s.v)) rfl ?_; clear hT hL; intro b3 a w3 hT hL hE hB
  refine l_do rfl ?_
  refine w_box hT hL (by decide) rfl (c := [(Value.slice q nd cq), (Value.bool s.o)] ++ (digC s.ox ++ (digC s.ov))) rfl ?_; clear hT hL; intro b4 a w4 hT hL hE hB
  refine l_q hT (q_assign hT rfl) rfl rfl (by decide) ?_; clear hT; intro a hT
  refine l_end ?_
  refine then_norm ?_
  refine c_seq ?_
  refine c_region ?_
  refine l_q hT (q_move hT rfl) rfl rfl (by decide) ?_; clear hT; intro a hT
  refine l_q hT (q_load_agg hT rfl Tryd.ty24 (hL.rd 2 rfl 0 (ds := digC s.p) rfl) rfl) rfl rfl (by decide) ?_; clear hT; intro a hT
  refine l_q hT (q_load_agg hT rfl Tryd.ty26 (hL.rd 1 rfl 0 (ds := [(Value.bool s.pr)] ++ (digC s.v)) rfl) rfl) rfl rfl (by decide) ?_; clear hT; intro a hT
  refine l_q hT (q_load_agg hT rfl Tryd.ty29 (hL.rd 0 rfl 0 (ds := [(Value.slice q nd cq), (Value.bool s.o)] ++ (digC s.ox ++ (digC s.ov))) rfl) rfl) rfl rfl (by decide) ?_; clear hT; intro a hT
  refine l_q hT (q_build (ps := [(0, .tmp 11), (1, .tmp 12), (2, .tmp 13), (3, .tmp 14)]) (pv := [(0, (vI s.w)), (1, (Value.agg (digC s.p).toArray)), (2, (Value.agg ([(Value.bool s.pr)] ++ (digC s.v)).toArray)), (3, (Value.agg ([(Value.slice q nd cq), (Value.bool s.o)] ++ (digC s.ox ++ (digC s.ov))).toArray))]) (v := .agg ([(vI s.w)] ++ (digC s.p ++ ([(Value.bool s.pr)] ++ (digC s.v ++ ([(Value.slice q nd cq), (Value.bool s.o)] ++ (digC s.ox ++ (digC s.ov))))))).toArray) hT rfl (fun _ => by kernel_rfl)) rfl rfl (by decide) ?_; clear hT; intro a hT
  refine l_q hT (q_load_agg hT rfl Tryd.ty24 (hL.rd 3 rfl 0 (ds := digC root) rfl) rfl) rfl rfl (by decide) ?_; clear hT; intro a hT
  refine l_do rfl ?_
  refine w_callT (xs := [.tmp 15, .tmp 16]) hT rfl (vs := [(Value.agg ([(vI s.w)] ++ (digC s.p ++ ([(Value.bool s.pr)] ++ (digC s.v ++ ([(Value.slice q nd cq), (Value.bool s.o)] ++ (digC s.ox ++ (digC s.ov))))))).toArray), (Value.agg (digC root).toArray)]) rfl (args := #[(Value.agg ([(vI s.w)] ++ (digC s.p ++ ([(Value.bool s.pr)] ++ (digC s.v ++ ([(Value.slice q nd cq), (Value.bool s.o)] ++ (digC s.ox ++ (digC s.ov))))))).toArray), (Value.agg (digC root).toArray)]) rfl Tryd.func22 rfl rfl (by decide) ((check_form s q nd cq root hw hnd hm _).mono ?_)
  rintro e w5 ⟨rfl, hX⟩
  refine ⟨_, rfl, ?_⟩; clear hT; intro a hT; replace hT : Tm 18 a ((17, (vI 40)) :: _) := hT
  replace hL := hL.ext hX
  refine l_q hT (q_assign hT rfl) rfl rfl (by decide) ?_; clear hT; intro a hT
  refine l_end ?_
  refine then_norm ?_
  refine wp_ret ?_
  refine c_ret (vs := [(vI 40)]) (rs := [.tmp 10]) hT rfl (.tmp rfl .nil) ?_
  exact ⟨rfl, hL.drop⟩

set_option maxRecDepth 20000 in
set_option maxHeartbeats 1000000 in
theorem Check_go (s : Said) (q : Option Addr) (nd cq : Nat) (root : Dig) (hw : widthB s.w = true) (hnd : s.ds.length = nd) (hn6 : nd ≤ 256) (hm : s.may = true) (w0 : World) (hK : KeysAt w0) (hsl : SlT w0 q nd 32 digC Dig.zero s.ds) :
    Calls Tryd.prog 10 #[(vI s.w), (Value.agg (digC root).toArray), (Value.agg (digC s.p).toArray), (Value.agg ([(Value.bool s.pr)] ++ (digC s.v)).toArray), (Value.agg ([(Value.slice q nd cq), (Value.bool s.o)] ++ (digC s.ox ++ (digC s.ov))).toArray)] w0 fun e w' => e = .returned (vI (if s.top = root then 0 else 41)) ∧ Ext w0 w' := by
  refine c_enter (n := 18) (args := [(vI s.w), (Value.agg (digC root).toArray), (Value.agg (digC s.p).toArray), (Value.agg ([(Value.bool s.pr)] ++ (digC s.v)).toArray), (Value.agg ([(Value.slice q nd cq), (Value.bool s.o)] ++ (digC s.ox ++ (digC s.ov))).toArray)]) Tryd.func10 rfl rfl (Nat.le_of_ble_eq_true rfl) rfl (fun a hT => ?_)
  simp only [List.zipIdx_cons, List.zipIdx_nil, List.map_cons, List.map_nil, Nat.reduceAdd] at hT
  have hL := Vg.Loc.refl [] w0
  refine c_seq ?_
  refine c_region ?_
  refine l_do rfl ?_
  refine w_box hT hL (by decide) rfl (c := digC root) rfl ?_; clear hT hL; intro b1 a w1 hT hL hE hB
  refine l_do rfl ?_
  refine w_box hT hL (by decide) rfl (c := digC s.p) rfl ?_; clear hT hL; intro b2 a w2 hT hL hE hB
  refine l_do rfl ?_
  refine w_box hT hL (by decide) rfl (c := [(Value.bool s.pr)] ++ (digC s.v)) rfl ?_; clear hT hL; intro b3 a w3 hT hL hE hB
  refine l_do rfl ?_
  refine w_box hT hL (by decide) rfl (c := [(Value.slice q nd cq), (Value.bool s.o)] ++ (digC s.ox ++ (digC s.ov))) rfl ?_; clear hT hL; intro b4 a w4 hT hL hE hB
  refine l_q hT (q_assign hT rfl) rfl rfl (by decide) ?_; clear hT; intro a hT
  refine l_end ?_
  refine then_norm ?_
  refine c_seq ?_
  refine c_region ?_
  refine l_q hT (q_move hT rfl) rfl rfl (by decide) ?_; clear hT; intro a hT
  refine l_q hT (q_load_agg hT rfl Tryd.ty24 (hL.rd 2 rfl 0 (ds := digC s.p) rfl) rfl) rfl rfl (by decide) ?_; clear hT; intro a hT
  refine l_q hT (q_load_agg hT rfl Tryd.ty26 (hL.rd 1 rfl 0 (ds := [(Value.bool s.pr)] ++ (digC s.v)) rfl) rfl) rfl rfl (by decide) ?_; clear hT; intro a hT
  refine l_q hT (q_load_agg hT rfl Tryd.ty29 (hL.rd 0 rfl 0 (ds := [(Value.slice q nd cq), (Value.bool s.o)] ++ (digC s.ox ++ (digC s.ov))) rfl) rfl) rfl rfl (by decide) ?_; clear hT; intro a hT
  refine l_q hT (q_build (ps := [(0, .tmp 11), (1, .tmp 12), (2, .tmp 13), (3, .tmp 14)]) (pv := [(0, (vI s.w)), (1, (Value.agg (digC s.p).toArray)), (2, (Value.agg ([(Value.bool s.pr)] ++ (digC s.v)).toArray)), (3, (Value.agg ([(Value.slice q nd cq), (Value.bool s.o)] ++ (digC s.ox ++ (digC s.ov))).toArray))]) (v := .agg ([(vI s.w)] ++ (digC s.p ++ ([(Value.bool s.pr)] ++ (digC s.v ++ ([(Value.slice q nd cq), (Value.bool s.o)] ++ (digC s.ox ++ (digC s.ov))))))).toArray) hT rfl (fun _ => by kernel_rfl)) rfl rfl (by decide) ?_; clear hT; intro a hT
  refine l_q hT (q_load_agg hT rfl Tryd.ty24 (hL.rd 3 rfl 0 (ds := digC root) rfl) rfl) rfl rfl (by decide) ?_; clear hT; intro a hT
  refine l_do rfl ?_
  refine w_callT (xs := [.tmp 15, .tmp 16]) hT rfl (vs := [(Value.agg ([(vI s.w)] ++ (digC s.p ++ ([(Value.bool s.pr)] ++ (digC s.v ++ ([(Value.slice q nd cq), (Value.bool s.o)] ++ (digC s.ox ++ (digC s.ov))))))).toArray), (Value.agg (digC root).toArray)]) rfl (args := #[(Value.agg ([(vI s.w)] ++ (digC s.p ++ ([(Value.bool s.pr)] ++ (digC s.v ++ ([(Value.slice q nd cq), (Value.bool s.o)] ++ (digC s.ox ++ (digC s.ov))))))).toArray), (Value.agg (digC root).toArray)]) rfl Tryd.func22 rfl rfl (by decide) ((check_go s q nd cq root hw hnd hn6 hm _ (KeysAt.of hK hL (by simp)) (hsl.ext hL)).mono ?_)
  rintro e w5 ⟨rfl, hX⟩
  refine ⟨_, rfl, ?_⟩; clear hT; intro a hT; replace hT : Tm 18 a ((17, (vI (if s.top = root then 0 else 41))) :: _) := hT
  replace hL := hL.ext hX
  refine l_q hT (q_assign hT rfl) rfl rfl (by decide) ?_; clear hT; intro a hT
  refine l_end ?_
  refine then_norm ?_
  refine wp_ret ?_
  refine c_ret (vs := [(vI (if s.top = root then 0 else 41))]) (rs := [.tmp 10]) hT rfl (.tmp rfl .nil) ?_
  exact ⟨rfl, hL.drop⟩

set_option maxRecDepth 100000 in
set_option maxHeartbeats 4000000 in
theorem checks_spec  (w0 : World) (hK : KeysAt w0) :
    Calls Tryd.prog 9 #[] w0 fun e w' => e = .returned (.bool true) ∧ Ext w0 w' := by
  refine c_enter (n := 32) (args := []) Tryd.func9 rfl rfl (Nat.le_of_ble_eq_true rfl) rfl (fun a hT => ?_)
  simp only [List.zipIdx_cons, List.zipIdx_nil, List.map_cons, List.map_nil, Nat.reduceAdd] at hT
  have hL := Vg.Loc.refl [] w0
  refine c_seq ?_
  refine c_region ?_
  refine l_q hT (q_assign hT rfl) rfl rfl (by decide) ?_; clear hT; intro a hT
  refine l_end ?_
  refine then_norm ?_
  refine c_seq ?_
  refine c_region ?_
  refine l_q hT (q_build (ps := [(0, .const (.int .u8 9))]) (pv := [(0, (v8 9))]) (v := .agg (digC (dig1 9)).toArray) hT rfl (fun _ => by kernel_rfl)) rfl rfl (by decide) ?_; clear hT; intro a hT
  refine l_do rfl ?_
  refine w_alloc hT hL (by decide) Tryd.ty24 ?_; clear hT hL; intro b1 a w1 hT hL hE hB
  refine l_do rfl ?_
  refine w_store hT hL 0 (c := digC Dig.zero) rfl rfl Tryd.ty24 rfl (vs := digC (dig1 9)) rfl rfl (by first | decide | (simp [arr32_len, arr8_len, digC_len]; done) | (simp [arr32_len, arr8_len, digC_len]; omega)) rfl (c' := digC (dig1 9)) rfl ?_; clear hL; intro w2 hL hE
  replace hL : Vg.Loc [] w0 w2 ([[(b1, ob (digC (dig1 9)) 24)]]) := hL
  refine l_end ?_
  refine then_norm ?_
  refine c_seq ?_
  refine d_start' hL #[false, false, false, false, false, false] [] rfl rfl rfl ?_; clear hL; intro w3 hL hE; have hR := hL; have hS := Ext.refl w3
  refine d_pure (i := 2) hT #[false, false, true, false, false, false] rfl (by kernel_rfl) rfl rfl (by decide) (fun _ _ _ h => h) (fun _ => q_build (ps := []) (pv := []) (v := .agg ([(Value.bool false)] ++ (digC Dig.zero)).toArray) hT rfl (fun _ => by kernel_rfl)) ?_; clear hT; intro a hT
  refine d_pure (i := 3) hT #[false, false, true, true, false, false] rfl (by kernel_rfl) rfl rfl (by decide) (fun _ _ _ h => h) (fun _ => q_build (ps := []) (pv := []) (v := .agg ([(Value.slice none 0 0), (Value.bool false)] ++ (digC Dig.zero ++ (digC Dig.zero))).toArray) hT rfl (fun _ => by kernel_rfl)) ?_; clear hT; intro a hT
  refine d_take (i := 1) hT #[false, true, true, true, false, false] rfl (by kernel_rfl) rfl rfl (by decide) (fun _ _ _ h => h) (fun _ hs => q_load_agg hT rfl Tryd.ty24 (Rd.ext (hR.rd 0 rfl 0 (ds := digC (dig1 9)) rfl) hs) rfl) hS ?_; clear hT; intro a hT
  refine d_one (i := 0) hT #[true, true, true, true, false, false] rfl (by kernel_rfl) rfl ?_
  refine w_callT (xs := [.const (.int .i64 32)]) hT rfl (vs := [(vI 32)]) rfl (args := #[(vI 32)]) rfl Tryd.func21 rfl rfl (by decide) ((Empty_spec (32) _ (hK.of hL (by simp))).mono ?_)
  rintro e w4 ⟨rfl, hX⟩
  refine ⟨_, rfl, ?_⟩; clear hT; intro a hT; replace hT : Tm 32 a ((6, (Value.agg (digC (emptyD 32)).toArray)) :: _) := hT
  replace hL := hL.ext hX
  replace hS := Vg.Loc.ext hS hX; refine ⟨fun _ => hS, ?_⟩
  refine d_one (i := 4) hT #[true, true, true, true, true, false] rfl (by kernel_rfl) rfl ?_
  refine w_callT (xs := [.const (.int .i64 32), .tmp 6, .tmp 7, .tmp 8, .tmp 9]) hT rfl (vs := [(vI 32), (Value.agg (digC (emptyD 32)).toArray), (Value.agg (digC (dig1 9)).toArray), (Value.agg ([(Value.bool false)] ++ (digC Dig.zero)).toArray), (Value.agg ([(Value.slice none 0 0), (Value.bool false)] ++ (digC Dig.zero ++ (digC Dig.zero))).toArray)]) rfl (args := #[(vI 32), (Value.agg (digC (emptyD 32)).toArray), (Value.agg (digC (dig1 9)).toArray), (Value.agg ([(Value.bool false)] ++ (digC Dig.zero)).toArray), (Value.agg ([(Value.slice none 0 0), (Value.bool false)] ++ (digC Dig.zero ++ (digC Dig.zero))).toArray)]) rfl Tryd.func10 rfl rfl (by decide) ((Check_go (⟨32, dig1 9, false, Dig.zero, [], false, Dig.zero, Dig.zero⟩ : Said) none 0 0 (emptyD 32) rfl rfl (by decide) (by simp [Said.may]) _ (hK.of hL (by simp)) SlT.nil).mono ?_)
  rintro e w5 ⟨rfl, hX⟩
  refine ⟨_, rfl, ?_⟩; clear hT; intro a hT; replace hT : Tm 32 a ((10, (vI (if (⟨32, dig1 9, false, Dig.zero, [], false, Dig.zero, Dig.zero⟩ : Said).top = emptyD 32 then 0 else 41))) :: _) := hT
  replace hL := hL.ext hX
  rw [if_pos (show (⟨32, dig1 9, false, Dig.zero, [], false, Dig.zero, Dig.zero⟩ : Said).top = emptyD 32 from rfl)] at hT
  replace hS := Vg.Loc.ext hS hX; refine ⟨fun _ => hS, ?_⟩
  refine d_pure (i := 5) hT #[true, true, true, true, true, true] rfl (by kernel_rfl) rfl rfl (by decide) (fun _ _ _ h => h) (fun _ => q_assign hT rfl) ?_; clear hT; intro a hT
  refine d_done (by kernel_rfl) ?_; clear hR hS
  refine then_norm ?_
  refine c_seq ?_
  refine d_start' hL #[false, false, false, false, false, false] [] rfl rfl rfl ?_; clear hL; intro w6 hL hE; have hR := hL; have hS := Ext.refl w6
  refine d_pure (i := 2) hT #[false, false, true, false, false, false] rfl (by kernel_rfl) rfl rfl (by decide) (fun _ _ _ h => h) (fun _ => q_build (ps := [(0, .const (.bool true))]) (pv := [(0, (Value.bool true))]) (v := .agg ([(Value.bool true)] ++ (digC Dig.zero)).toArray) hT rfl (fun _ => by kernel_rfl)) ?_; clear hT; intro a hT
  refine d_pure (i := 3) hT #[false, false, true, true, false, false] rfl (by kernel_rfl) rfl rfl (by decide) (fun _ _ _ h => h) (fun _ => q_build (ps := []) (pv := []) (v := .agg ([(Value.slice none 0 0), (Value.bool false)] ++ (digC Dig.zero ++ (digC Dig.zero))).toArray) hT rfl (fun _ => by kernel_rfl)) ?_; clear hT; intro a hT
  refine d_take (i := 1) hT #[false, true, true, true, false, false] rfl (by kernel_rfl) rfl rfl (by decide) (fun _ _ _ h => h) (fun _ hs => q_load_agg hT rfl Tryd.ty24 (Rd.ext (hR.rd 0 rfl 0 (ds := digC (dig1 9)) rfl) hs) rfl) hS ?_; clear hT; intro a hT
  refine d_one (i := 0) hT #[true, true, true, true, false, false] rfl (by kernel_rfl) rfl ?_
  refine w_callT (xs := [.const (.int .i64 32)]) hT rfl (vs := [(vI 32)]) rfl (args := #[(vI 32)]) rfl Tryd.func21 rfl rfl (by decide) ((Empty_spec (32) _ (hK.of hL (by simp))).mono ?_)
  rintro e w7 ⟨rfl, hX⟩
  refine ⟨_, rfl, ?_⟩; clear hT; intro a hT; replace hT : Tm 32 a ((11, (Value.agg (digC (emptyD 32)).toArray)) :: _) := hT
  replace hL := hL.ext hX
  replace hS := Vg.Loc.ext hS hX; refine ⟨fun _ => hS, ?_⟩
  refine d_one (i := 4) hT #[true, true, true, true, true, false] rfl (by kernel_rfl) rfl ?_
  refine w_callT (xs := [.const (.int .i64 32), .tmp 11, .tmp 12, .tmp 13, .tmp 14]) hT rfl (vs := [(vI 32), (Value.agg (digC (emptyD 32)).toArray), (Value.agg (digC (dig1 9)).toArray), (Value.agg ([(Value.bool true)] ++ (digC Dig.zero)).toArray), (Value.agg ([(Value.slice none 0 0), (Value.bool false)] ++ (digC Dig.zero ++ (digC Dig.zero))).toArray)]) rfl (args := #[(vI 32), (Value.agg (digC (emptyD 32)).toArray), (Value.agg (digC (dig1 9)).toArray), (Value.agg ([(Value.bool true)] ++ (digC Dig.zero)).toArray), (Value.agg ([(Value.slice none 0 0), (Value.bool false)] ++ (digC Dig.zero ++ (digC Dig.zero))).toArray)]) rfl Tryd.func10 rfl rfl (by decide) ((Check_go (⟨32, dig1 9, true, Dig.zero, [], false, Dig.zero, Dig.zero⟩ : Said) none 0 0 (emptyD 32) rfl rfl (by decide) (by simp [Said.may]) _ (hK.of hL (by simp)) SlT.nil).mono ?_)
  rintro e w8 ⟨rfl, hX⟩
  refine ⟨_, rfl, ?_⟩; clear hT; intro a hT; replace hT : Tm 32 a ((15, (vI (if (⟨32, dig1 9, true, Dig.zero, [], false, Dig.zero, Dig.zero⟩ : Said).top = emptyD 32 then 0 else 41))) :: _) := hT
  replace hL := hL.ext hX
  rw [if_neg (show ¬ (⟨32, dig1 9, true, Dig.zero, [], false, Dig.zero, Dig.zero⟩ : Said).top = emptyD 32 from chk_no)] at hT
  replace hS := Vg.Loc.ext hS hX; refine ⟨fun _ => hS, ?_⟩
  refine d_pure (i := 5) hT #[true, true, true, true, true, true] rfl (by kernel_rfl) rfl rfl (by decide) (fun _ _ _ h => h) (fun _ => q_assign hT rfl) ?_; clear hT; intro a hT
  refine d_done (by kernel_rfl) ?_; clear hR hS
  refine then_norm ?_
  refine c_seq ?_
  refine d_start' hL #[false, false, false, false, false, false, false] [] rfl rfl rfl ?_; clear hL; intro w9 hL hE; have hR := hL; have hS := Ext.refl w9
  refine d_pure (i := 4) hT #[false, false, false, false, true, false, false] rfl (by kernel_rfl) rfl rfl (by decide) (fun _ _ _ h => h) (fun _ => q_build (ps := []) (pv := []) (v := .agg ([(Value.slice none 0 0), (Value.bool false)] ++ (digC Dig.zero ++ (digC Dig.zero))).toArray) hT rfl (fun _ => by kernel_rfl)) ?_; clear hT; intro a hT
  refine d_take (i := 1) hT #[false, true, false, false, true, false, false] rfl (by kernel_rfl) rfl rfl (by decide) (fun _ _ _ h => h) (fun _ hs => q_load_agg hT rfl Tryd.ty24 (Rd.ext (hR.rd 0 rfl 0 (ds := digC (dig1 9)) rfl) hs) rfl) hS ?_; clear hT; intro a hT
  refine d_take (i := 2) hT #[false, true, true, false, true, false, false] rfl (by kernel_rfl) rfl rfl (by decide) (fun _ _ _ h => h) (fun _ hs => q_load_agg hT rfl Tryd.ty24 (Rd.ext (hR.rd 0 rfl 0 (ds := digC (dig1 9)) rfl) hs) rfl) hS ?_; clear hT; intro a hT
  refine d_pure (i := 3) hT #[false, true, true, true, true, false, false] rfl (by kernel_rfl) rfl rfl (by decide) (fun _ _ _ h => h) (fun _ => q_build (ps := [(1, .tmp 18)]) (pv := [(1, (Value.agg (digC (dig1 9)).toArray))]) (v := .agg ([(Value.bool false)] ++ (digC (dig1 9))).toArray) hT rfl (fun _ => by kernel_rfl)) ?_; clear hT; intro a hT
  refine d_one (i := 0) hT #[true, true, true, true, true, false, false] rfl (by kernel_rfl) rfl ?_
  refine w_callT (xs := [.const (.int .i64 32)]) hT rfl (vs := [(vI 32)]) rfl (args := #[(vI 32)]) rfl Tryd.func21 rfl rfl (by decide) ((Empty_spec (32) _ (hK.of hL (by simp))).mono ?_)
  rintro e w10 ⟨rfl, hX⟩
  refine ⟨_, rfl, ?_⟩; clear hT; intro a hT; replace hT : Tm 32 a ((16, (Value.agg (digC (emptyD 32)).toArray)) :: _) := hT
  replace hL := hL.ext hX
  replace hS := Vg.Loc.ext hS hX; refine ⟨fun _ => hS, ?_⟩
  refine d_one (i := 5) hT #[true, true, true, true, true, true, false] rfl (by kernel_rfl) rfl ?_
  refine w_callT (xs := [.const (.int .i64 32), .tmp 16, .tmp 17, .tmp 19, .tmp 20]) hT rfl (vs := [(vI 32), (Value.agg (digC (emptyD 32)).toArray), (Value.agg (digC (dig1 9)).toArray), (Value.agg ([(Value.bool false)] ++ (digC (dig1 9))).toArray), (Value.agg ([(Value.slice none 0 0), (Value.bool false)] ++ (digC Dig.zero ++ (digC Dig.zero))).toArray)]) rfl (args := #[(vI 32), (Value.agg (digC (emptyD 32)).toArray), (Value.agg (digC (dig1 9)).toArray), (Value.agg ([(Value.bool false)] ++ (digC (dig1 9))).toArray), (Value.agg ([(Value.slice none 0 0), (Value.bool false)] ++ (digC Dig.zero ++ (digC Dig.zero))).toArray)]) rfl Tryd.func10 rfl rfl (by decide) ((Check_form (⟨32, dig1 9, false, dig1 9, [], false, Dig.zero, Dig.zero⟩ : Said) none 0 0 (emptyD 32) rfl rfl (by simp [Said.may, chk_p]) _).mono ?_)
  rintro e w11 ⟨rfl, hX⟩
  refine ⟨_, rfl, ?_⟩; clear hT; intro a hT; replace hT : Tm 32 a ((21, (vI 40)) :: _) := hT
  replace hL := hL.ext hX
  replace hS := Vg.Loc.ext hS hX; refine ⟨fun _ => hS, ?_⟩
  refine d_pure (i := 6) hT #[true, true, true, true, true, true, true] rfl (by kernel_rfl) rfl rfl (by decide) (fun _ _ _ h => h) (fun _ => q_assign hT rfl) ?_; clear hT; intro a hT
  refine d_done (by kernel_rfl) ?_; clear hR hS
  refine then_norm ?_
  refine c_seq ?_
  refine c_region ?_
  refine l_q hT (q_move hT rfl) rfl rfl (by decide) ?_; clear hT; intro a hT
  refine l_q hT ((q_eql hT rfl rfl).b (b := true) rfl) rfl rfl (by decide) ?_; clear hT; intro a hT
  refine l_q hT (q_move hT rfl) rfl rfl (by decide) ?_; clear hT; intro a hT
  refine l_on hT rfl rfl rfl rfl (w_q hT (q_move hT rfl) rfl (by decide) ?_); clear hT; intro a hT
  refine l_on hT rfl rfl rfl rfl (w_q hT ((q_eql hT rfl rfl).b (b := true) rfl) rfl (by decide) ?_); clear hT; intro a hT
  refine l_q hT ((q_pick hT rfl rfl rfl).v (v := (Value.bool true)) rfl) rfl rfl (by decide) ?_; clear hT; intro a hT
  refine l_q hT (q_move hT rfl) rfl rfl (by decide) ?_; clear hT; intro a hT
  refine l_on hT rfl rfl rfl rfl (w_q hT (q_move hT rfl) rfl (by decide) ?_); clear hT; intro a hT
  refine l_on hT rfl rfl rfl rfl (w_q hT ((q_eql hT rfl rfl).b (b := true) rfl) rfl (by decide) ?_); clear hT; intro a hT
  refine l_q hT ((q_pick hT rfl rfl rfl).v (v := (Value.bool true)) rfl) rfl rfl (by decide) ?_; clear hT; intro a hT
  refine l_q hT (q_assign hT rfl) rfl rfl (by decide) ?_; clear hT; intro a hT
  refine l_end ?_
  refine then_norm ?_
  refine wp_ret ?_
  refine c_ret (vs := [(Value.bool true)]) (rs := [.tmp 0]) hT rfl (.tmp rfl .nil) ?_
  exact ⟨rfl, hL.drop⟩
end Go.Proofs.YtcaffacganffjaaDoor
end

section
namespace Go.Proofs.YtcaffacganffjaaDoor
open Go Go.Vg


set_option maxRecDepth 20000 in
set_option maxHeartbeats 1000000 in
theorem Clone_some (ls : List Leaf) (ad : Addr) (len cap : Nat) (h0 : 0 < len) (hc : len ≤ 4096) (w0 : World) (hsl : SlT w0 (some ad) len 64 leafC noLeaf ls) :
    Calls Tryd.prog 11 #[(Value.slice (some ad) len cap)] w0 fun e w' => ∃ g cap' junk, e = .returned (.slice (some ⟨g, 0, none⟩) len cap') ∧ Vg.Loc [] w0 w' [[(g, ob (ls.flatMap leafC ++ junk) 36)]] ∧ len ≤ cap' := by
  refine c_enter (n := 8) (args := [(Value.slice (some ad) len cap)]) Tryd.func11 rfl rfl (Nat.le_of_ble_eq_true rfl) rfl (fun a hT => ?_)
  simp only [List.zipIdx_cons, List.zipIdx_nil, List.map_cons, List.map_nil, Nat.reduceAdd] at hT
  have hL := Vg.Loc.refl [] w0
  have hlen : ls.length = len := hsl.1
  refine c_seq ?_
  refine c_region ?_
  refine l_q hT (q_assign hT rfl) rfl rfl (by decide) ?_; clear hT; intro a hT
  refine l_end ?_
  refine then_norm ?_
  refine c_seq ?_
  refine c_seq ?_
  refine c_region ?_
  refine l_q hT (q_move hT rfl) rfl rfl (by decide) ?_; clear hT; intro a hT
  refine l_q hT ((q_eq_slnil hT rfl rfl Tryd.underlying22).b (b := false) rfl) rfl rfl (by decide) ?_; clear hT; intro a hT
  refine l_end ?_
  refine then_norm ?_
  refine c_false hT rfl rfl ?_
  refine wp_skip ?_
  refine then_norm ?_
  refine c_seq ?_
  refine c_region ?_
  refine l_do rfl ?_
  refine w_buildSlice (e := 36) (ps := []) (pv := []) (c := []) hT hL (by decide) rfl (fun _ => by kernel_rfl) ?_; clear hT hL; intro b1 a w1 hT hL hE hB
  refine l_q hT (q_move hT rfl) rfl rfl (by decide) ?_; clear hT; intro a hT
  refine l_do rfl ?_
  refine w_append hT hL (by decide) 0 rfl rfl rfl Tryd.app22 (by decide) rfl OwnC.empty (SlT.src leafC_len leafC_one (hsl.ext hL)) (by omega) (by simp only [maxLen]; omega) ?_; clear hT hL; intro p' cap' c' a w2 hown hT hL
  replace hL : Vg.Loc [] w0 w2 ([c']) := hL
  refine l_q hT (q_assign hT rfl) rfl rfl (by decide) ?_; clear hT; intro a hT
  refine l_end ?_
  refine then_norm ?_
  refine wp_ret ?_
  refine c_ret (vs := [(Value.slice p' (0 + len) cap')]) (rs := [.tmp 2]) hT rfl (.tmp rfl .nil) ?_
  obtain ⟨_, hlc, _, hcase⟩ := hown
  rcases hcase with ⟨rfl, rfl, _⟩ | ⟨gb, junk, rfl, rfl, _⟩
  · omega
  · exact ⟨gb, cap', junk, by simp [packed], by simpa using hL, by omega⟩

set_option maxRecDepth 20000 in
set_option maxHeartbeats 1000000 in
theorem Clone_none (p : Option Addr) (cap : Nat) (w0 : World) :
    Calls Tryd.prog 11 #[(Value.slice p 0 cap)] w0 fun e w' => ∃ p' cap', e = .returned (.slice p' 0 cap') ∧ Ext w0 w' := by
  refine c_enter (n := 8) (args := [(Value.slice p 0 cap)]) Tryd.func11 rfl rfl (Nat.le_of_ble_eq_true rfl) rfl (fun a hT => ?_)
  simp only [List.zipIdx_cons, List.zipIdx_nil, List.map_cons, List.map_nil, Nat.reduceAdd] at hT
  have hL := Vg.Loc.refl [] w0
  refine c_seq ?_
  refine c_region ?_
  refine l_q hT (q_assign hT rfl) rfl rfl (by decide) ?_; clear hT; intro a hT
  refine l_end ?_
  refine then_norm ?_
  refine c_seq ?_
  refine c_seq ?_
  refine c_region ?_
  refine l_q hT (q_move hT rfl) rfl rfl (by decide) ?_; clear hT; intro a hT
  refine l_q hT (q_eq_slnil hT rfl rfl Tryd.underlying22) rfl rfl (by decide) ?_; clear hT; intro a hT
  refine l_end ?_
  refine then_norm ?_
  refine c_if hT rfl (fun hc1 => ?_) (fun hc1 => ?_)
  · skip
    refine c_seq ?_
    refine c_region ?_
    refine l_q hT (q_assign hT rfl) rfl rfl (by decide) ?_; clear hT; intro a hT
    refine l_end ?_
    refine then_norm ?_
    refine wp_ret ?_
    refine then_ret ?_
    refine c_ret (vs := [(Value.slice none 0 0)]) (rs := [.tmp 2]) hT rfl (.tmp rfl .nil) ?_
    exact ⟨_, _, rfl, hL.drop⟩
  · skip
    refine wp_skip ?_
    refine then_norm ?_
    refine c_seq ?_
    refine c_region ?_
    refine l_do rfl ?_
    refine w_buildSlice (e := 36) (ps := []) (pv := []) (c := []) hT hL (by decide) rfl (fun _ => by kernel_rfl) ?_; clear hT hL; intro b1 a w1 hT hL hE hB
    refine l_q hT (q_move hT rfl) rfl rfl (by decide) ?_; clear hT; intro a hT
    refine l_do rfl ?_
    refine w_append hT hL (by decide) 0 rfl rfl rfl Tryd.app22 (by decide) rfl OwnC.empty ⟨rfl, rfl, fun h => by omega⟩ (news := []) (by omega) (by simp only [maxLen]; omega) ?_; clear hT hL; intro p' cap' c' a w2 hown hT hL
    replace hL : Vg.Loc [] w0 w2 ([c']) := hL
    refine l_q hT (q_assign hT rfl) rfl rfl (by decide) ?_; clear hT; intro a hT
    refine l_end ?_
    refine then_norm ?_
    refine wp_ret ?_
    refine c_ret (vs := [(Value.slice p' (0 + 0) cap')]) (rs := [.tmp 2]) hT rfl (.tmp rfl .nil) ?_
    exact ⟨_, _, rfl, hL.drop⟩

set_option maxRecDepth 20000 in
set_option maxHeartbeats 1000000 in
theorem isNaN_spec (x : UInt8) (w0 : World) :
    Calls Tryd.prog 72 #[(v8 x)] w0 fun e w' => e = .returned (.bool false) ∧ Ext w0 w' := by
  refine c_enter (n := 6) (args := [(v8 x)]) Tryd.func72 rfl rfl (Nat.le_of_ble_eq_true rfl) rfl (fun a hT => ?_)
  simp only [List.zipIdx_cons, List.zipIdx_nil, List.map_cons, List.map_nil, Nat.reduceAdd] at hT
  have hL := Vg.Loc.refl [] w0
  refine c_seq ?_
  refine c_region ?_
  refine l_q hT (q_assign hT rfl) rfl rfl (by decide) ?_; clear hT; intro a hT
  refine l_end ?_
  refine then_norm ?_
  refine c_seq ?_
  refine c_region ?_
  refine l_q hT (q_move hT rfl) rfl rfl (by decide) ?_; clear hT; intro a hT
  refine l_q hT (q_move hT rfl) rfl rfl (by decide) ?_; clear hT; intro a hT
  refine l_q hT (q_ne8 (u := x) (v := x) hT rfl rfl) rfl rfl (by decide) ?_; clear hT; intro a hT
  refine l_q hT (q_assign hT rfl) rfl rfl (by decide) ?_; clear hT; intro a hT
  refine l_end ?_
  refine then_norm ?_
  refine wp_ret ?_
  refine c_ret (vs := [(Value.bool (decide (x ≠ x)))]) (rs := [.tmp 2]) hT rfl (.tmp rfl .nil) ?_
  exact ⟨by simp [packed], hL.drop⟩

set_option maxRecDepth 20000 in
set_option maxHeartbeats 1000000 in
theorem cmpB_spec (x y : UInt8) (w0 : World) :
    Calls Tryd.prog 57 #[(v8 x), (v8 y)] w0 fun e w' => e = .returned (vI (cmpB x y)) ∧ Ext w0 w' := by
  refine c_enter (n := 20) (args := [(v8 x), (v8 y)]) Tryd.func57 rfl rfl (Nat.le_of_ble_eq_true rfl) rfl (fun a hT => ?_)
  simp only [List.zipIdx_cons, List.zipIdx_nil, List.map_cons, List.map_nil, Nat.reduceAdd] at hT
  have hL := Vg.Loc.refl [] w0
  refine c_seq ?_
  refine c_region ?_
  refine l_q hT (q_assign hT rfl) rfl rfl (by decide) ?_; clear hT; intro a hT
  refine l_end ?_
  refine then_norm ?_
  refine c_seq ?_
  refine c_region ?_
  refine l_q hT (q_move hT rfl) rfl rfl (by decide) ?_; clear hT; intro a hT
  refine l_do rfl ?_
  refine w_callT (xs := [.tmp 7]) hT rfl (vs := [(v8 x)]) rfl (args := #[(v8 x)]) rfl Tryd.func72 rfl rfl (by decide) ((isNaN_spec x _).mono ?_)
  rintro e w1 ⟨rfl, hX⟩
  refine ⟨_, rfl, ?_⟩; clear hT; intro a hT; replace hT : Tm 20 a ((8, (Value.bool false)) :: _) := hT
  replace hL := hL.ext hX
  refine l_q hT (q_assign hT rfl) rfl rfl (by decide) ?_; clear hT; intro a hT
  refine l_end ?_
  refine then_norm ?_
  refine c_seq ?_
  refine c_region ?_
  refine l_q hT (q_move hT rfl) rfl rfl (by decide) ?_; clear hT; intro a hT
  refine l_do rfl ?_
  refine w_callT (xs := [.tmp 9]) hT rfl (vs := [(v8 y)]) rfl (args := #[(v8 y)]) rfl Tryd.func72 rfl rfl (by decide) ((isNaN_spec y _).mono ?_)
  rintro e w2 ⟨rfl, hX⟩
  refine ⟨_, rfl, ?_⟩; clear hT; intro a hT; replace hT : Tm 20 a ((10, (Value.bool false)) :: _) := hT
  replace hL := hL.ext hX
  refine l_q hT (q_assign hT rfl) rfl rfl (by decide) ?_; clear hT; intro a hT
  refine l_end ?_
  refine then_norm ?_
  refine c_seq ?_
  refine c_seq ?_
  refine c_region ?_
  refine l_q hT (q_move hT rfl) rfl rfl (by decide) ?_; clear hT; intro a hT
  refine l_end ?_
  refine then_norm ?_
  refine c_false hT rfl rfl ?_
  refine wp_skip ?_
  refine then_norm ?_
  refine c_seq ?_
  refine c_seq ?_
  refine c_region ?_
  refine l_q hT (q_move hT rfl) rfl rfl (by decide) ?_; clear hT; intro a hT
  refine l_end ?_
  refine then_norm ?_
  refine c_false hT rfl rfl ?_
  refine wp_skip ?_
  refine then_norm ?_
  refine c_seq ?_
  refine c_seq ?_
  refine c_region ?_
  refine l_q hT (q_move hT rfl) rfl rfl (by decide) ?_; clear hT; intro a hT
  refine l_q hT (q_move hT rfl) rfl rfl (by decide) ?_; clear hT; intro a hT
  refine l_q hT (q_ls8 (u := x) (v := y) hT rfl rfl) rfl rfl (by decide) ?_; clear hT; intro a hT
  refine l_end ?_
  refine then_norm ?_
  refine c_if hT rfl (fun hc1 => ?_) (fun hc1 => ?_)
  · skip
    have hc1 := of_decide_eq_true hc1
    refine c_seq ?_
    refine c_region ?_
    refine l_q hT (q_assign hT rfl) rfl rfl (by decide) ?_; clear hT; intro a hT
    refine l_end ?_
    refine then_norm ?_
    refine wp_ret ?_
    refine then_ret ?_
    refine c_ret (vs := [(vI (-1))]) (rs := [.tmp 4]) hT rfl (.tmp rfl .nil) ?_
    refine ⟨?_, hL.drop⟩; simp only [packed]; unfold cmpB; (repeat' split) <;> first | rfl | contradiction
  · skip
    have hc1 := of_decide_eq_false hc1
    refine wp_skip ?_
    refine then_norm ?_
    refine c_seq ?_
    refine c_seq ?_
    refine c_region ?_
    refine l_q hT (q_move hT rfl) rfl rfl (by decide) ?_; clear hT; intro a hT
    refine l_q hT (q_move hT rfl) rfl rfl (by decide) ?_; clear hT; intro a hT
    refine l_q hT (q_gt8 (u := x) (v := y) hT rfl rfl) rfl rfl (by decide) ?_; clear hT; intro a hT
    refine l_end ?_
    refine then_norm ?_
    refine c_if hT rfl (fun hc2 => ?_) (fun hc2 => ?_)
    · skip
      have hc2 := of_decide_eq_true hc2
      refine c_seq ?_
      refine c_region ?_
      refine l_q hT (q_assign hT rfl) rfl rfl (by decide) ?_; clear hT; intro a hT
      refine l_end ?_
      refine then_norm ?_
      refine wp_ret ?_
      refine then_ret ?_
      refine c_ret (vs := [(vI 1)]) (rs := [.tmp 4]) hT rfl (.tmp rfl .nil) ?_
      refine ⟨?_, hL.drop⟩; simp only [packed]; unfold cmpB; (repeat' split) <;> first | rfl | contradiction
    · skip
      have hc2 := of_decide_eq_false hc2
      refine wp_skip ?_
      refine then_norm ?_
      refine c_seq ?_
      refine c_region ?_
      refine l_q hT (q_assign hT rfl) rfl rfl (by decide) ?_; clear hT; intro a hT
      refine l_end ?_
      refine then_norm ?_
      refine wp_ret ?_
      refine c_ret (vs := [(vI 0)]) (rs := [.tmp 4]) hT rfl (.tmp rfl .nil) ?_
      refine ⟨?_, hL.drop⟩; simp only [packed]; unfold cmpB; (repeat' split) <;> first | rfl | contradiction

set_option maxRecDepth 20000 in
set_option maxHeartbeats 1000000 in
theorem cmpL_spec (xs ys : List UInt8) (p q : Option Addr) (l m cp cq : Nat) (hlb : l < 4611686018427387904) (w0 : World) (hx : SlB w0 p l xs) (hy : SlB w0 q m ys) :
    Calls Tryd.prog 44 #[(Value.slice p l cp), (Value.slice q m cq)] w0 fun e w' => e = .returned (vI (cmpL xs ys)) ∧ Ext w0 w' := by
  refine c_enter (n := 36) (args := [(Value.slice p l cp), (Value.slice q m cq)]) Tryd.func44 rfl rfl (Nat.le_of_ble_eq_true rfl) rfl (fun a hT => ?_)
  simp only [List.zipIdx_cons, List.zipIdx_nil, List.map_cons, List.map_nil, Nat.reduceAdd] at hT
  have hL := Vg.Loc.refl [] w0
  have hxt := hx.t
  have hyt := hy.t
  have hxl : xs.length = l := hx.1
  have hyl : ys.length = m := hy.1
  refine c_seq ?_
  refine c_region ?_
  refine l_q hT (q_assign hT rfl) rfl rfl (by decide) ?_; clear hT; intro a hT
  refine l_end ?_
  refine then_norm ?_
  refine c_seq ?_
  refine c_seq ?_
  refine c_region ?_
  refine l_q hT (q_move hT rfl) rfl rfl (by decide) ?_; clear hT; intro a hT
  refine l_q hT (q_len_slice hT rfl Tryd.underlying73) rfl rfl (by decide) ?_; clear hT; intro a hT
  refine l_q hT (q_move hT rfl) rfl rfl (by decide) ?_; clear hT; intro a hT
  refine l_end ?_
  refine then_norm ?_
  refine wp_block ?_
  refine c_loop (fun mz a wz => ∃ t : Nat, mz = l - t ∧ t ≤ l ∧ t ≤ m ∧ cmpL xs ys = cmpL (xs.drop t) (ys.drop t) ∧ Tm 36 a [(0, (Value.slice p l cp)), (1, (Value.slice q m cq)), (4, (vI 0)), (9, (Value.slice p l cp)), (10, (vI (l : Int))), (11, (vI (t : Int)))] ∧ Vg.Loc [] w0 wz []) id l ?_ ?_
  · exact ⟨0, rfl, by omega, by omega, by simp, hT.keep [0, 1, 4, 9, 10, 11] rfl, hL⟩
  clear hT hL
  rintro mz a w1 ⟨t, rfl, ht, htm, hcm, hT, hL⟩
  refine c_seq ?_
  refine c_region ?_
  refine l_q hT (q_lss hT rfl rfl) rfl rfl (by decide) ?_; clear hT; intro a hT
  refine l_end ?_
  refine then_norm ?_
  refine c_seq ?_
  refine c_if hT rfl (fun hc1 => ?_) (fun hc1 => ?_)
  · skip
    have hc1 := of_decide_eq_true hc1
    refine wp_skip ?_
    refine then_norm ?_
    refine c_seq ?_
    refine wp_block ?_
    refine c_seq ?_
    refine c_region ?_
    refine l_q hT (q_move hT rfl) rfl rfl (by decide) ?_; clear hT; intro a hT
    obtain ⟨sb1, so1, hp1, hrd1⟩ := (hxt).2 (by omega)
    refine l_q hT (q_indexAddr (b := sb1) (off := so1) (len := l) (cap := cp) hT (by rw [← hp1]; rfl) rfl Tryd.sli73 (by omega) (by omega)) rfl rfl (by decide) ?_; clear hT; intro a hT
    refine l_q hT (q_load hT rfl Tryd.ty5 (Rd.loc (hrd1 t (by omega)) hL (by simp))) rfl rfl (by decide) ?_; clear hT; intro a hT
    refine l_q hT (q_assign hT rfl) rfl rfl (by decide) ?_; clear hT; intro a hT
    refine l_q hT (q_assign hT rfl) rfl rfl (by decide) ?_; clear hT; intro a hT
    refine l_end ?_
    refine then_norm ?_
    refine c_seq ?_
    refine c_seq ?_
    refine c_region ?_
    refine l_q hT (q_move hT rfl) rfl rfl (by decide) ?_; clear hT; intro a hT
    refine l_q hT (q_move hT rfl) rfl rfl (by decide) ?_; clear hT; intro a hT
    refine l_q hT (q_len_slice hT rfl Tryd.underlying73) rfl rfl (by decide) ?_; clear hT; intro a hT
    refine l_q hT (q_geq hT rfl rfl) rfl rfl (by decide) ?_; clear hT; intro a hT
    refine l_end ?_
    refine then_norm ?_
    refine c_if hT rfl (fun hc2 => ?_) (fun hc2 => ?_)
    · skip
      have hc2 := of_decide_eq_true hc2
      refine c_seq ?_
      refine c_region ?_
      refine l_q hT (q_assign hT rfl) rfl rfl (by decide) ?_; clear hT; intro a hT
      refine l_end ?_
      refine then_norm ?_
      refine wp_ret ?_
      refine then_ret ?_
      refine blk_ret ?_
      refine then_ret ?_
      refine then_ret ?_
      refine blk_ret ?_
      refine then_ret ?_
      refine c_ret (vs := [(vI 1)]) (rs := [.tmp 4]) hT rfl (.tmp rfl .nil) ?_
      refine ⟨?_, hL.drop⟩; rw [hcm, cmpL_end1 (by omega) (by omega)]; rfl
    · skip
      have hc2 := of_decide_eq_false hc2
      refine wp_skip ?_
      refine then_norm ?_
      refine c_seq ?_
      refine c_region ?_
      refine l_q hT (q_move hT rfl) rfl rfl (by decide) ?_; clear hT; intro a hT
      refine l_q hT (q_move hT rfl) rfl rfl (by decide) ?_; clear hT; intro a hT
      obtain ⟨sb2, so2, hp2, hrd2⟩ := (hyt).2 (by omega)
      refine l_q hT (q_indexAddr (b := sb2) (off := so2) (len := m) (cap := cq) hT (by rw [← hp2]; rfl) rfl Tryd.sli73 (by omega) (by omega)) rfl rfl (by decide) ?_; clear hT; intro a hT
      refine l_q hT (q_load hT rfl Tryd.ty5 (Rd.loc (hrd2 t (by omega)) hL (by simp))) rfl rfl (by decide) ?_; clear hT; intro a hT
      refine l_q hT (q_assign hT rfl) rfl rfl (by decide) ?_; clear hT; intro a hT
      refine l_end ?_
      refine then_norm ?_
      refine c_seq ?_
      refine c_region ?_
      refine l_q hT (q_move hT rfl) rfl rfl (by decide) ?_; clear hT; intro a hT
      refine l_q hT (q_move hT rfl) rfl rfl (by decide) ?_; clear hT; intro a hT
      refine l_do rfl ?_
      refine w_callT (xs := [.tmp 24, .tmp 25]) hT rfl (vs := [(v8 (xs.getD t 0)), (v8 (ys.getD t 0))]) rfl (args := #[(v8 (xs.getD t 0)), (v8 (ys.getD t 0))]) rfl Tryd.func57 rfl rfl (by decide) ((cmpB_spec (xs.getD t 0) (ys.getD t 0) _).mono ?_)
      rintro e w2 ⟨rfl, hX⟩
      refine ⟨_, rfl, ?_⟩; clear hT; intro a hT; replace hT : Tm 36 a ((26, (vI (cmpB (xs.getD t 0) (ys.getD t 0)))) :: _) := hT
      replace hL := hL.ext hX
      refine l_q hT (q_assign hT rfl) rfl rfl (by decide) ?_; clear hT; intro a hT
      refine l_end ?_
      refine then_norm ?_
      refine c_seq ?_
      refine c_region ?_
      refine l_q hT (q_move hT rfl) rfl rfl (by decide) ?_; clear hT; intro a hT
      refine l_q hT (q_neq hT rfl rfl) rfl rfl (by decide) ?_; clear hT; intro a hT
      refine l_end ?_
      refine then_norm ?_
      refine c_if hT rfl (fun hc3 => ?_) (fun hc3 => ?_)
      · skip
        have hc3 := of_decide_eq_true hc3
        refine c_seq ?_
        refine c_region ?_
        refine l_q hT (q_move hT rfl) rfl rfl (by decide) ?_; clear hT; intro a hT
        refine l_q hT (q_assign hT rfl) rfl rfl (by decide) ?_; clear hT; intro a hT
        refine l_end ?_
        refine then_norm ?_
        refine wp_ret ?_
        refine blk_ret ?_
        refine then_ret ?_
        refine then_ret ?_
        refine blk_ret ?_
        refine then_ret ?_
        refine c_ret (vs := [(vI (cmpB (xs.getD t 0) (ys.getD t 0)))]) (rs := [.tmp 4]) hT rfl (.tmp rfl .nil) ?_
        refine ⟨?_, hL.drop⟩; rw [hcm, cmpL_step (by omega) (by omega), if_neg (by omega)]; rfl
      · skip
        have hc3 := of_decide_eq_false hc3
        refine wp_skip ?_
        refine blk_norm ?_
        refine then_norm ?_
        refine c_region ?_
        refine l_q hT (q_addI hT rfl rfl (r := (t : Int) + 1) rfl (by omega) (by omega)) rfl rfl (by decide) ?_; clear hT; intro a hT
        refine l_q hT (q_move hT rfl) rfl rfl (by decide) ?_; clear hT; intro a hT
        refine l_end ?_
        refine then_norm ?_
        exact ⟨_, ⟨t + 1, rfl, by omega, by omega, by rw [hcm, cmpL_step (by omega) (by omega), if_pos (by omega)], hT.keep [0, 1, 4, 9, 10, 11] rfl, hL⟩, by simp only [id]; omega⟩
  · skip
    have hc1 := of_decide_eq_false hc1
    refine wp_exit ?_
    refine then_exit ?_
    refine then_exit ?_
    refine blk_exit ?_
    refine then_norm ?_
    refine c_seq ?_
    refine c_seq ?_
    refine c_region ?_
    refine l_q hT (q_move hT rfl) rfl rfl (by decide) ?_; clear hT; intro a hT
    refine l_q hT (q_len_slice hT rfl Tryd.underlying73) rfl rfl (by decide) ?_; clear hT; intro a hT
    refine l_q hT (q_move hT rfl) rfl rfl (by decide) ?_; clear hT; intro a hT
    refine l_q hT (q_len_slice hT rfl Tryd.underlying73) rfl rfl (by decide) ?_; clear hT; intro a hT
    refine l_q hT (q_lss hT rfl rfl) rfl rfl (by decide) ?_; clear hT; intro a hT
    refine l_end ?_
    refine then_norm ?_
    refine c_if hT rfl (fun hc4 => ?_) (fun hc4 => ?_)
    · skip
      have hc4 := of_decide_eq_true hc4
      refine c_seq ?_
      refine c_region ?_
      refine l_q hT (q_assign hT rfl) rfl rfl (by decide) ?_; clear hT; intro a hT
      refine l_end ?_
      refine then_norm ?_
      refine wp_ret ?_
      refine then_ret ?_
      refine c_ret (vs := [(vI (-1))]) (rs := [.tmp 4]) hT rfl (.tmp rfl .nil) ?_
      refine ⟨?_, hL.drop⟩; rw [hcm, cmpL_end2 (by omega), if_pos (by omega)]; rfl
    · skip
      have hc4 := of_decide_eq_false hc4
      refine wp_skip ?_
      refine then_norm ?_
      refine c_seq ?_
      refine c_region ?_
      refine l_q hT (q_assign hT rfl) rfl rfl (by decide) ?_; clear hT; intro a hT
      refine l_end ?_
      refine then_norm ?_
      refine wp_ret ?_
      refine c_ret (vs := [(vI 0)]) (rs := [.tmp 4]) hT rfl (.tmp rfl .nil) ?_
      refine ⟨?_, hL.drop⟩; rw [hcm, cmpL_end2 (by omega), if_neg (by omega)]; rfl

set_option maxRecDepth 20000 in
set_option maxHeartbeats 1000000 in
theorem cmpLeaf_spec (x y : Leaf) (w0 : World) :
    Calls Tryd.prog 43 #[(Value.agg (digC x.p ++ (digC x.v)).toArray), (Value.agg (digC y.p ++ (digC y.v)).toArray)] w0 fun e w' => e = .returned (vI (cmpLeaf x y)) ∧ Ext w0 w' := by
  refine c_enter (n := 10) (args := [(Value.agg (digC x.p ++ (digC x.v)).toArray), (Value.agg (digC y.p ++ (digC y.v)).toArray)]) Tryd.func43 rfl rfl (Nat.le_of_ble_eq_true rfl) rfl (fun a hT => ?_)
  simp only [List.zipIdx_cons, List.zipIdx_nil, List.map_cons, List.map_nil, Nat.reduceAdd] at hT
  have hL := Vg.Loc.refl [] w0
  refine c_seq ?_
  refine c_region ?_
  refine l_do rfl ?_
  refine w_box hT hL (by decide) rfl (c := digC x.p ++ (digC x.v)) rfl ?_; clear hT hL; intro b1 a w1 hT hL hE hB
  refine l_do rfl ?_
  refine w_box hT hL (by decide) rfl (c := digC y.p ++ (digC y.v)) rfl ?_; clear hT hL; intro b2 a w2 hT hL hE hB
  refine l_q hT (q_assign hT rfl) rfl rfl (by decide) ?_; clear hT; intro a hT
  refine l_end ?_
  refine then_norm ?_
  refine c_seq ?_
  refine d_start' hL #[false, false, false, false, false, false] [] rfl rfl rfl ?_; clear hL; intro w3 hL hE; have hR := hL; have hS := Ext.refl w3
  refine d_pure (i := 0) hT #[true, false, false, false, false, false] rfl (by kernel_rfl) rfl rfl (by decide) (fun _ _ _ h => h) (fun _ => q_fieldAddr hT rfl Tryd.fld36_0 rfl) ?_; clear hT; intro a hT
  refine d_pure (i := 1) hT #[true, true, false, false, false, false] rfl (by kernel_rfl) rfl rfl (by decide) (fun _ _ _ h => h) (fun _ => q_slice_arr hT rfl Tryd.arr24 (by omega)) ?_; clear hT; intro a hT
  refine d_pure (i := 2) hT #[true, true, true, false, false, false] rfl (by kernel_rfl) rfl rfl (by decide) (fun _ _ _ h => h) (fun _ => q_fieldAddr hT rfl Tryd.fld36_0 rfl) ?_; clear hT; intro a hT
  refine d_pure (i := 3) hT #[true, true, true, true, false, false] rfl (by kernel_rfl) rfl rfl (by decide) (fun _ _ _ h => h) (fun _ => q_slice_arr hT rfl Tryd.arr24 (by omega)) ?_; clear hT; intro a hT
  refine d_one (i := 4) hT #[true, true, true, true, true, false] rfl (by kernel_rfl) rfl ?_
  refine w_callT (xs := [.tmp 6, .tmp 8]) hT rfl (vs := [(Value.slice (some ⟨b1, 0, none⟩) 32 32), (Value.slice (some ⟨b2, 0, none⟩) 32 32)]) rfl (args := #[(Value.slice (some ⟨b1, 0, none⟩) 32 32), (Value.slice (some ⟨b2, 0, none⟩) 32 32)]) rfl Tryd.func44 rfl rfl (by decide) ((cmpL_spec x.p.l y.p.l (some ⟨b1, 0, none⟩) (some ⟨b2, 0, none⟩) 32 32 32 32 (by decide) _ (SlB.dig (hL.rd 1 rfl 0 (ds := digC x.p) rfl)) (SlB.dig (hL.rd 0 rfl 0 (ds := digC y.p) rfl))).mono ?_)
  rintro e w4 ⟨rfl, hX⟩
  refine ⟨_, rfl, ?_⟩; clear hT; intro a hT; replace hT : Tm 10 a ((9, (vI (cmpL x.p.l y.p.l))) :: _) := hT
  replace hL := hL.ext hX
  replace hS := Vg.Loc.ext hS hX; refine ⟨fun _ => hS, ?_⟩
  refine d_pure (i := 5) hT #[true, true, true, true, true, true] rfl (by kernel_rfl) rfl rfl (by decide) (fun _ _ _ h => h) (fun _ => q_assign hT rfl) ?_; clear hT; intro a hT
  refine d_done (by kernel_rfl) ?_; clear hR hS
  refine then_norm ?_
  refine wp_ret ?_
  refine c_ret (vs := [(vI (cmpL x.p.l y.p.l))]) (rs := [.tmp 4]) hT rfl (.tmp rfl .nil) ?_
  exact ⟨rfl, hL.drop⟩
end Go.Proofs.YtcaffacganffjaaDoor
end

section
namespace Go.Proofs
open Go.Shelf
def Tryd.sortL_ren : Go.Shelf.Ren := ⟨fun | 6 => 42 | 15 => 56 | 14 => 55 | 28 => 70 | 29 => 71 | 20 => 62 | 21 => 63 | 22 => 64 | 23 => 65 | 24 => 66 | 25 => 67 | 26 => 68 | 27 => 69 | 46 => 77 | 47 => 78 | 48 => 79 | 49 => 80 | 50 => 81 | 57 => 86 | n => n, fun | 22 => 22 | 24 => 36 | 25 => 82 | 3 => 3 | 39 => 115 | 0 => 0 | 53 => 86 | 55 => 112 | 4 => 4 | 46 => 123 | 45 => 122 | 50 => 127 | 5 => 5 | 9 => 9 | 66 => 136 | 70 => 140 | 76 => 145 | 77 => 146 | n => n, fun | n => n⟩
theorem Tryd.sortL : Go.Proofs.SlLaysF0.n6 Tryd.prog Tryd.sortL_ren := {
  mixed := by kernel_rfl
  f6 := ⟨Tryd.f42.name, by decide, Tryd.func42.trans (congrArg some (by kernel_rfl))⟩
  f14 := ⟨Tryd.f55.name, by decide, Tryd.func55.trans (congrArg some (by kernel_rfl))⟩
  f15 := Tryd.func56.trans (congrArg some (by kernel_rfl))
  f20 := ⟨Tryd.f62.name, by decide, Tryd.func62.trans (congrArg some (by kernel_rfl))⟩
  f21 := ⟨Tryd.f63.name, by decide, Tryd.func63.trans (congrArg some (by kernel_rfl))⟩
  f22 := ⟨Tryd.f64.name, by decide, Tryd.func64.trans (congrArg some (by kernel_rfl))⟩
  f23 := ⟨Tryd.f65.name, by decide, Tryd.func65.trans (congrArg some (by kernel_rfl))⟩
  f24 := ⟨Tryd.f66.name, by decide, Tryd.func66.trans (congrArg some (by kernel_rfl))⟩
  f25 := ⟨Tryd.f67.name, by decide, Tryd.func67.trans (congrArg some (by kernel_rfl))⟩
  f26 := ⟨Tryd.f68.name, by decide, Tryd.func68.trans (congrArg some (by kernel_rfl))⟩
  f27 := ⟨Tryd.f69.name, by decide, Tryd.func69.trans (congrArg some (by kernel_rfl))⟩
  f28 := Tryd.func70.trans (congrArg some (by kernel_rfl))
  f29 := Tryd.func71.trans (congrArg some (by kernel_rfl))
  f46 := ⟨Tryd.f77.name, by decide, Tryd.func77.trans (congrArg some (by kernel_rfl))⟩
  f47 := Tryd.func78.trans (congrArg some (by kernel_rfl))
  f48 := Tryd.func79.trans (congrArg some (by kernel_rfl))
  f49 := ⟨Tryd.f80.name, by decide, Tryd.func80.trans (congrArg some (by kernel_rfl))⟩
  f50 := ⟨Tryd.f81.name, by decide, Tryd.func81.trans (congrArg some (by kernel_rfl))⟩
  f57 := ⟨Tryd.f86.name, by decide, Tryd.func86.trans (congrArg some (by kernel_rfl))⟩
  t0 := Tryd.underlying0
  a0 := Tryd.isAgg0
  z0 := Tryd.sizeOf0
  v0 := Tryd.zeroValue0
  t3 := Tryd.underlying3
  a3 := Tryd.isAgg3
  z3 := Tryd.sizeOf3
  v3 := Tryd.zeroValue3
  t4 := Tryd.underlying4
  a4 := Tryd.isAgg4
  z4 := Tryd.sizeOf4
  v4 := Tryd.zeroValue4
  t5 := Tryd.underlying5
  a5 := Tryd.isAgg5
  z5 := Tryd.sizeOf5
  v5 := Tryd.zeroValue5
  t9 := Tryd.underlying9
  a9 := Tryd.isAgg9
  z9 := Tryd.sizeOf9
  v9 := Tryd.zeroValue9
  t22 := Tryd.underlying22
  a22 := Tryd.isAgg22
  z22 := Tryd.sizeOf22
  v22 := Tryd.zeroValue22
  t25 := Tryd.underlying82
  a25 := Tryd.isAgg82
  z25 := Tryd.sizeOf82
  v25 := Tryd.zeroValue82
  t39 := Tryd.underlying115
  a39 := Tryd.isAgg115
  z39 := Tryd.sizeOf115
  v39 := Tryd.zeroValue115
  t45 := Tryd.underlying122
  a45 := Tryd.isAgg122
  z45 := Tryd.sizeOf122
  v45 := Tryd.zeroValue122
  t46 := Tryd.underlying123
  a46 := Tryd.isAgg123
  z46 := Tryd.sizeOf123
  v46 := Tryd.zeroValue123
  t50 := Tryd.underlying127
  a50 := Tryd.isAgg127
  z50 := Tryd.sizeOf127
  v50 := Tryd.zeroValue127
  t53 := Tryd.underlying86
  a53 := Tryd.isAgg86
  z53 := Tryd.sizeOf86
  v53 := Tryd.zeroValue86
  t55 := Tryd.underlying112
  a55 := Tryd.isAgg112
  z55 := Tryd.sizeOf112
  v55 := Tryd.zeroValue112
  t66 := Tryd.underlying136
  a66 := Tryd.isAgg136
  z66 := Tryd.sizeOf136
  v66 := Tryd.zeroValue136
  t70 := Tryd.underlying140
  a70 := Tryd.isAgg140
  z70 := Tryd.sizeOf140
  v70 := Tryd.zeroValue140
  t76 := Tryd.underlying145
  a76 := Tryd.isAgg145
  z76 := Tryd.sizeOf145
  v76 := Tryd.zeroValue145
  t77 := Tryd.underlying146
  a77 := Tryd.isAgg146
  z77 := Tryd.sizeOf146
  v77 := Tryd.zeroValue146 }
end Go.Proofs
end
