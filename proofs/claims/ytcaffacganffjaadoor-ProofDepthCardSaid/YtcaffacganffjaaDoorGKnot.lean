/- The walks of a part of the program: GKnot. Printed by a program of the prover. -/
import Derived.Test.YtcaffacganffjaaDoorVDig
import Derived.Test.YtcaffacganffjaaDoorVTypes
import Derived.Test.YtcaffacganffjaaDoorVTree
import Derived.Test.YtcaffacganffjaaDoorGSmt2
import Derived.Test.YtcaffacganffjaaDoorGPath
namespace Go.Proofs.YtcaffacganffjaaDoor
open Go Go.Vg


set_option maxRecDepth 20000 in
set_option maxHeartbeats 1000000 in
theorem inner_nil  (w0 : World) :
    Calls Tryd.prog 45 #[(Value.pointer none)] w0 fun e w' => e = .returned (.bool false) ∧ Ext w0 w' := by
  refine c_enter (n := 19) (args := [(Value.pointer none)]) Tryd.func45 rfl rfl (Nat.le_of_ble_eq_true rfl) rfl (fun a hT => ?_)
  simp only [List.zipIdx_cons, List.zipIdx_nil, List.map_cons, List.map_nil, Nat.reduceAdd] at hT
  have hL := Vg.Loc.refl [] w0
  refine c_seq ?_
  refine c_region ?_
  refine l_q hT (q_assign hT rfl) rfl rfl (by decide) ?_; clear hT; intro a hT
  refine l_end ?_
  refine then_norm ?_
  refine c_seq ?_
  refine c_region ?_
  refine l_q hT (q_move hT rfl) rfl rfl (by decide) ?_; clear hT; intro a hT
  refine l_q hT ((q_ne_nil hT rfl rfl Tryd.underlying63).b (b := false) rfl) rfl rfl (by decide) ?_; clear hT; intro a hT
  refine l_q hT (q_move hT rfl) rfl rfl (by decide) ?_; clear hT; intro a hT
  refine l_off hT rfl rfl rfl rfl rfl (by decide) ?_; clear hT; intro a hT
  refine l_off hT rfl rfl rfl rfl rfl (by decide) ?_; clear hT; intro a hT
  refine l_off hT rfl rfl rfl rfl rfl (by decide) ?_; clear hT; intro a hT
  refine l_off hT rfl rfl rfl rfl rfl (by decide) ?_; clear hT; intro a hT
  refine l_off hT rfl rfl rfl rfl rfl (by decide) ?_; clear hT; intro a hT
  refine l_off hT rfl rfl rfl rfl rfl (by decide) ?_; clear hT; intro a hT
  refine l_off' hT rfl rfl rfl rfl rfl (by decide) ?_; clear hT; intro a hT
  refine l_off' hT rfl rfl rfl rfl rfl (by decide) ?_; clear hT; intro a hT
  refine l_off' hT rfl rfl rfl rfl rfl (by decide) ?_; clear hT; intro a hT
  refine l_off' hT rfl rfl rfl rfl rfl (by decide) ?_; clear hT; intro a hT
  refine l_off' hT rfl rfl rfl rfl rfl (by decide) ?_; clear hT; intro a hT
  refine l_off hT rfl rfl rfl rfl rfl (by decide) ?_; clear hT; intro a hT
  refine l_q hT ((q_pick hT rfl rfl rfl).v (v := (Value.bool false)) rfl) rfl rfl (by decide) ?_; clear hT; intro a hT
  refine l_q hT (q_assign hT rfl) rfl rfl (by decide) ?_; clear hT; intro a hT
  refine l_end ?_
  refine then_norm ?_
  refine wp_ret ?_
  refine c_ret (vs := [(Value.bool false)]) (rs := [.tmp 2]) hT rfl (.tmp rfl .nil) ?_
  exact ⟨rfl, hL.drop⟩

set_option maxRecDepth 20000 in
set_option maxHeartbeats 1000000 in
theorem inner_some (b : Nat) (p q : Option Addr) (w0 : World) (hk : Rd w0 b 99 [.pointer p, .pointer q]) :
    Calls Tryd.prog 45 #[(vp b 0)] w0 fun e w' => e = .returned (.bool (p.isSome || q.isSome)) ∧ Ext w0 w' := by
  refine c_enter (n := 19) (args := [(vp b 0)]) Tryd.func45 rfl rfl (Nat.le_of_ble_eq_true rfl) rfl (fun a hT => ?_)
  simp only [List.zipIdx_cons, List.zipIdx_nil, List.map_cons, List.map_nil, Nat.reduceAdd] at hT
  have hL := Vg.Loc.refl [] w0
  refine c_seq ?_
  refine c_region ?_
  refine l_q hT (q_assign hT rfl) rfl rfl (by decide) ?_; clear hT; intro a hT
  refine l_end ?_
  refine then_norm ?_
  refine c_seq ?_
  refine c_region ?_
  refine l_q hT (q_move hT rfl) rfl rfl (by decide) ?_; clear hT; intro a hT
  refine l_q hT ((q_ne_nil hT rfl rfl Tryd.underlying63).b (b := true) rfl) rfl rfl (by decide) ?_; clear hT; intro a hT
  refine l_q hT (q_move hT rfl) rfl rfl (by decide) ?_; clear hT; intro a hT
  refine l_on hT rfl rfl rfl rfl (w_q hT (q_move hT rfl) rfl (by decide) ?_); clear hT; intro a hT
  refine l_on hT rfl rfl rfl rfl (w_q hT (q_nilCheck hT rfl) rfl (by decide) ?_); clear hT; intro a hT
  refine l_on hT rfl rfl rfl rfl (w_q hT (q_fieldAddr hT rfl Tryd.fld98_2 rfl) rfl (by decide) ?_); clear hT; intro a hT
  refine l_on hT rfl rfl rfl rfl (w_q hT (q_load hT rfl Tryd.ty63 ((Rd.loc hk hL (by simp)).part 0 (ds := [(Value.pointer p)]) rfl)) rfl (by decide) ?_); clear hT; intro a hT
  refine l_on hT rfl rfl rfl rfl (w_q hT (q_ne_nil hT rfl rfl Tryd.underlying63) rfl (by decide) ?_); clear hT; intro a hT
  refine l_on hT rfl rfl rfl rfl (w_q hT (q_move hT rfl) rfl (by decide) ?_); clear hT; intro a hT
  rcases Bool.eq_false_or_eq_true (p.isSome) with hc1 | hc1
  · rw [hc1] at hT
    refine l_off hT rfl rfl rfl rfl rfl (by decide) ?_; clear hT; intro a hT
    refine l_off hT rfl rfl rfl rfl rfl (by decide) ?_; clear hT; intro a hT
    refine l_off hT rfl rfl rfl rfl rfl (by decide) ?_; clear hT; intro a hT
    refine l_off hT rfl rfl rfl rfl rfl (by decide) ?_; clear hT; intro a hT
    refine l_off hT rfl rfl rfl rfl rfl (by decide) ?_; clear hT; intro a hT
    refine l_on hT rfl rfl rfl rfl (w_q hT ((q_pick hT rfl rfl rfl).v (v := (Value.bool true)) rfl) rfl (by decide) ?_); clear hT; intro a hT
    refine l_q hT ((q_pick hT rfl rfl rfl).v (v := (Value.bool true)) rfl) rfl rfl (by decide) ?_; clear hT; intro a hT
    refine l_q hT (q_assign hT rfl) rfl rfl (by decide) ?_; clear hT; intro a hT
    refine l_end ?_
    refine then_norm ?_
    refine wp_ret ?_
    refine c_ret (vs := [(Value.bool true)]) (rs := [.tmp 2]) hT rfl (.tmp rfl .nil) ?_
    exact ⟨by simp_all [packed], hL.drop⟩
  · rw [hc1] at hT
    refine l_on hT rfl rfl rfl rfl (w_q hT (q_move hT rfl) rfl (by decide) ?_); clear hT; intro a hT
    refine l_on hT rfl rfl rfl rfl (w_q hT (q_nilCheck hT rfl) rfl (by decide) ?_); clear hT; intro a hT
    refine l_on hT rfl rfl rfl rfl (w_q hT (q_fieldAddr hT rfl Tryd.fld98_3 rfl) rfl (by decide) ?_); clear hT; intro a hT
    refine l_on hT rfl rfl rfl rfl (w_q hT (q_load hT rfl Tryd.ty63 ((Rd.loc hk hL (by simp)).part 1 (ds := [(Value.pointer q)]) rfl)) rfl (by decide) ?_); clear hT; intro a hT
    refine l_on hT rfl rfl rfl rfl (w_q hT (q_ne_nil hT rfl rfl Tryd.underlying63) rfl (by decide) ?_); clear hT; intro a hT
    refine l_on hT rfl rfl rfl rfl (w_q hT ((q_pick hT rfl rfl rfl).v (v := (Value.bool q.isSome)) rfl) rfl (by decide) ?_); clear hT; intro a hT
    refine l_q hT ((q_pick hT rfl rfl rfl).v (v := (Value.bool q.isSome)) rfl) rfl rfl (by decide) ?_; clear hT; intro a hT
    refine l_q hT (q_assign hT rfl) rfl rfl (by decide) ?_; clear hT; intro a hT
    refine l_end ?_
    refine then_norm ?_
    refine wp_ret ?_
    refine c_ret (vs := [(Value.bool q.isSome)]) (rs := [.tmp 2]) hT rfl (.tmp rfl .nil) ?_
    exact ⟨by simp_all [packed], hL.drop⟩

set_option maxRecDepth 20000 in
set_option maxHeartbeats 1000000 in
theorem with_nil (l : Leaf) (n : Int) (w0 : World) :
    Calls Tryd.prog 32 #[(Value.pointer none), (Value.agg (digC l.p ++ (digC l.v)).toArray), (vI n)] w0 fun e w' => ∃ b, e = .returned (vp b 0) ∧ Vg.Loc [] w0 w' [(KT.leaf b l).ents 98] := by
  refine c_enter (n := 98) (args := [(Value.pointer none), (Value.agg (digC l.p ++ (digC l.v)).toArray), (vI n)]) Tryd.func32 rfl rfl (Nat.le_of_ble_eq_true rfl) rfl (fun a hT => ?_)
  simp only [List.zipIdx_cons, List.zipIdx_nil, List.map_cons, List.map_nil, Nat.reduceAdd] at hT
  have hL := Vg.Loc.refl [] w0
  refine c_seq ?_
  refine c_region ?_
  refine l_do rfl ?_
  refine w_box hT hL (by decide) rfl (c := digC l.p ++ (digC l.v)) rfl ?_; clear hT hL; intro b1 a w1 hT hL hE hB
  refine l_q hT (q_assign hT rfl) rfl rfl (by decide) ?_; clear hT; intro a hT
  refine l_end ?_
  refine then_norm ?_
  refine c_seq ?_
  refine wp_block ?_
  refine c_seq ?_
  refine d_start' hL #[false, false, false, false, false, false, false, false, false, false, false, false, false, false, false, false, false, false] [] rfl rfl rfl ?_; clear hL; intro w2 hL hE; have hR := hL; have hS := Ext.refl w2
  refine d_pure (i := 0) hT #[true, false, false, false, false, false, false, false, false, false, false, false, false, false, false, false, false, false] rfl (by kernel_rfl) rfl rfl (by decide) (fun _ _ _ h => h) (fun _ => q_move hT rfl) ?_; clear hT; intro a hT
  refine d_pure (i := 1) hT #[true, true, false, false, false, false, false, false, false, false, false, false, false, false, false, false, false, false] rfl (by kernel_rfl) rfl rfl (by decide) (fun _ _ _ h => h) (fun _ => (q_eq_nil hT rfl rfl Tryd.underlying63).b (b := true) rfl) ?_; clear hT; intro a hT
  refine d_pure (i := 2) hT #[true, true, true, false, false, false, false, false, false, false, false, false, false, false, false, false, false, false] rfl (by kernel_rfl) rfl rfl (by decide) (fun _ _ _ h => h) (fun _ => q_move hT rfl) ?_; clear hT; intro a hT
  refine d_off (i := 3) hT #[true, true, true, true, false, false, false, false, false, false, false, false, false, false, false, false, false, false] rfl (by kernel_rfl) rfl rfl (by decide) (fun _ _ _ h => h) ?_; clear hT; intro a hT
  refine d_off (i := 4) hT #[true, true, true, true, true, false, false, false, false, false, false, false, false, false, false, false, false, false] rfl (by kernel_rfl) rfl rfl (by decide) (fun _ _ _ h => h) ?_; clear hT; intro a hT
  refine d_off (i := 5) hT #[true, true, true, true, true, true, false, false, false, false, false, false, false, false, false, false, false, false] rfl (by kernel_rfl) rfl rfl (by decide) (fun _ _ _ h => h) ?_; clear hT; intro a hT
  refine d_off (i := 6) hT #[true, true, true, true, true, true, true, false, false, false, false, false, false, false, false, false, false, false] rfl (by kernel_rfl) rfl rfl (by decide) (fun _ _ _ h => h) ?_; clear hT; intro a hT
  refine d_off (i := 7) hT #[true, true, true, true, true, true, true, true, false, false, false, false, false, false, false, false, false, false] rfl (by kernel_rfl) rfl rfl (by decide) (fun _ _ _ h => h) ?_; clear hT; intro a hT
  refine d_off (i := 8) hT #[true, true, true, true, true, true, true, true, true, false, false, false, false, false, false, false, false, false] rfl (by kernel_rfl) rfl rfl (by decide) (fun _ _ _ h => h) ?_; clear hT; intro a hT
  refine d_off (i := 9) hT #[true, true, true, true, true, true, true, true, true, true, false, false, false, false, false, false, false, false] rfl (by kernel_rfl) rfl rfl (by decide) (fun _ _ _ h => h) ?_; clear hT; intro a hT
  refine d_off (i := 10) hT #[true, true, true, true, true, true, true, true, true, true, true, false, false, false, false, false, false, false] rfl (by kernel_rfl) rfl rfl (by decide) (fun _ _ _ h => h) ?_; clear hT; intro a hT
  refine d_off (i := 11) hT #[true, true, true, true, true, true, true, true, true, true, true, true, false, false, false, false, false, false] rfl (by kernel_rfl) rfl rfl (by decide) (fun _ _ _ h => h) ?_; clear hT; intro a hT
  refine d_off (i := 12) hT #[true, true, true, true, true, true, true, true, true, true, true, true, true, false, false, false, false, false] rfl (by kernel_rfl) rfl rfl (by decide) (fun _ _ _ h => h) ?_; clear hT; intro a hT
  refine d_off (i := 13) hT #[true, true, true, true, true, true, true, true, true, true, true, true, true, true, false, false, false, false] rfl (by kernel_rfl) rfl rfl (by decide) (fun _ _ _ h => h) ?_; clear hT; intro a hT
  refine d_off (i := 14) hT #[true, true, true, true, true, true, true, true, true, true, true, true, true, true, true, false, false, false] rfl (by kernel_rfl) rfl rfl (by decide) (fun _ _ _ h => h) ?_; clear hT; intro a hT
  refine d_off (i := 15) hT #[true, true, true, true, true, true, true, true, true, true, true, true, true, true, true, true, false, false] rfl (by kernel_rfl) rfl rfl (by decide) (fun _ _ _ h => h) ?_; clear hT; intro a hT
  refine d_pure (i := 16) hT #[true, true, true, true, true, true, true, true, true, true, true, true, true, true, true, true, true, false] rfl (by kernel_rfl) rfl rfl (by decide) (fun _ _ _ h => h) (fun _ => (q_pick hT rfl rfl rfl).v (v := (Value.bool true)) rfl) ?_; clear hT; intro a hT
  refine d_pure (i := 17) hT #[true, true, true, true, true, true, true, true, true, true, true, true, true, true, true, true, true, true] rfl (by kernel_rfl) rfl rfl (by decide) (fun _ _ _ h => h) (fun _ => q_assign hT rfl) ?_; clear hT; intro a hT
  refine d_done (by kernel_rfl) ?_; clear hR hS
  refine then_norm ?_
  refine c_true hT rfl rfl ?_
  refine c_seq ?_
  refine c_region ?_
  refine l_q hT (q_load_agg hT rfl Tryd.ty36 (hL.rd 0 rfl 0 (ds := digC l.p ++ (digC l.v)) rfl) rfl) rfl rfl (by decide) ?_; clear hT; intro a hT
  refine l_q hT (q_build (ps := [(1, .tmp 27)]) (pv := [(1, (Value.agg (digC l.p ++ (digC l.v)).toArray))]) (v := .agg ([(v32 0), (Value.int .i32 0), (v32 0)] ++ (digC Dig.zero ++ (digC l.p ++ (digC l.v ++ ([(Value.pointer none), (Value.pointer none)]))))).toArray) hT rfl (fun _ => by kernel_rfl)) rfl rfl (by decide) ?_; clear hT; intro a hT
  refine l_do rfl ?_
  refine w_box hT hL (by decide) rfl (c := [(v32 0), (Value.int .i32 0), (v32 0)] ++ (digC Dig.zero ++ (digC l.p ++ (digC l.v ++ ([(Value.pointer none), (Value.pointer none)]))))) rfl ?_; clear hT hL; intro b2 a w3 hT hL hE hB
  refine l_q hT (q_assign hT rfl) rfl rfl (by decide) ?_; clear hT; intro a hT
  refine l_end ?_
  refine then_norm ?_
  refine wp_ret ?_
  refine blk_ret ?_
  refine then_ret ?_
  refine c_ret (vs := [(vp b2 0)]) (rs := [.tmp 6]) hT rfl (.tmp rfl .nil) ?_
  exact ⟨_, rfl, hL.sub (.cons_cons _ (.cons _ .slnil))⟩

set_option maxRecDepth 100000 in
set_option maxHeartbeats 4000000 in
theorem with_leaf (b : Nat) (old l : Leaf) (n : Nat) (hg : GoodL [l, old] n) (ih : WithOK Tryd.prog 32 98 (n + 1)) (w0 : World) (hL0 : Vg.Loc (keys [(KT.leaf b old).ents 98]) w0 w0 [(KT.leaf b old).ents 98]) :
    Calls Tryd.prog 32 #[(vp b 0), (Value.agg (digC l.p ++ (digC l.v)).toArray), (vI (n : Int))] w0 fun e w' => ∃ t', e = .returned (.pointer t'.ad) ∧ Vg.Loc (keys [(KT.leaf b old).ents 98]) w0 w' [t'.ents 98] ∧ Rep t' (l :: [old]) n := by
  refine c_enter (n := 98) (args := [(vp b 0), (Value.agg (digC l.p ++ (digC l.v)).toArray), (vI (n : Int))]) Tryd.func32 rfl rfl (Nat.le_of_ble_eq_true rfl) rfl (fun a hT => ?_)
  simp only [List.zipIdx_cons, List.zipIdx_nil, List.map_cons, List.map_nil, Nat.reduceAdd] at hT
  have hL : Vg.Loc (keys [(KT.leaf b old).ents 98]) w0 w0 [[(b, ob ([(v32 0), (Value.int .i32 0), (v32 0)] ++ (digC Dig.zero ++ (digC old.p ++ (digC old.v ++ ([(Value.pointer none), (Value.pointer none)]))))) 98)]] := hL0
  have hn : n < 256 := hg.lt (by simp)
  have hne : old.p ≠ l.p := fun e => (List.pairwise_cons.1 hg.apart).1 old (by simp) e.symm
  refine c_seq ?_
  refine c_region ?_
  refine l_do rfl ?_
  refine w_box hT hL (by decide) rfl (c := digC l.p ++ (digC l.v)) rfl ?_; clear hT hL; intro b1 a w1 hT hL hE hB
  refine l_q hT (q_assign hT rfl) rfl rfl (by decide) ?_; clear hT; intro a hT
  refine l_end ?_
  refine then_norm ?_
  refine c_seq ?_
  refine wp_block ?_
  refine c_seq ?_
  refine d_start' hL #[false, false, false, false, false, false, false, false, false, false, false, false, false, false, false, false, false, false] [] rfl rfl rfl ?_; clear hL; intro w2 hL hE; have hR := hL; have hS := Ext.refl w2
  refine d_pure (i := 0) hT #[true, false, false, false, false, false, false, false, false, false, false, false, false, false, false, false, false, false] rfl (by kernel_rfl) rfl rfl (by decide) (fun _ _ _ h => h) (fun _ => q_move hT rfl) ?_; clear hT; intro a hT
  refine d_pure (i := 1) hT #[true, true, false, false, false, false, false, false, false, false, false, false, false, false, false, false, false, false] rfl (by kernel_rfl) rfl rfl (by decide) (fun _ _ _ h => h) (fun _ => (q_eq_nil hT rfl rfl Tryd.underlying63).b (b := false) rfl) ?_; clear hT; intro a hT
  refine d_pure (i := 2) hT #[true, true, true, false, false, false, false, false, false, false, false, false, false, false, false, false, false, false] rfl (by kernel_rfl) rfl rfl (by decide) (fun _ _ _ h => h) (fun _ => q_move hT rfl) ?_; clear hT; intro a hT
  refine d_pure (i := 3) hT #[true, true, true, true, false, false, false, false, false, false, false, false, false, false, false, false, false, false] rfl (by kernel_rfl) rfl rfl (by decide) (fun _ _ _ h => h) (fun _ => q_move hT rfl) ?_; clear hT; intro a hT
  refine d_one (i := 4) hT #[true, true, true, true, true, false, false, false, false, false, false, false, false, false, false, false, false, false] rfl (by kernel_rfl) rfl ?_
  refine w_callT (xs := [.tmp 13]) hT rfl (vs := [(vp b 0)]) rfl (args := #[(vp b 0)]) rfl Tryd.func45 rfl rfl (by decide) ((inner_some b none none _ (hL.rd 1 rfl 99 rfl)).mono ?_)
  rintro e w3 ⟨rfl, hX⟩
  refine ⟨_, rfl, ?_⟩; clear hT; intro a hT; replace hT : Tm 98 a ((14, (Value.bool false)) :: _) := hT
  replace hL := hL.ext hX
  replace hS := Vg.Loc.ext hS hX; refine ⟨fun _ => hS, ?_⟩
  refine d_pure (i := 5) hT #[true, true, true, true, true, true, false, false, false, false, false, false, false, false, false, false, false, false] rfl (by kernel_rfl) rfl rfl (by decide) (fun _ _ _ h => h) (fun _ => (q_not hT rfl).b rfl) ?_; clear hT; intro a hT
  refine d_pure (i := 6) hT #[true, true, true, true, true, true, true, false, false, false, false, false, false, false, false, false, false, false] rfl (by kernel_rfl) rfl rfl (by decide) (fun _ _ _ h => h) (fun _ => q_move hT rfl) ?_; clear hT; intro a hT
  refine d_pure (i := 7) hT #[true, true, true, true, true, true, true, true, false, false, false, false, false, false, false, false, false, false] rfl (by kernel_rfl) rfl rfl (by decide) (fun _ _ _ h => h) (fun _ => q_move hT rfl) ?_; clear hT; intro a hT
  refine d_pure (i := 8) hT #[true, true, true, true, true, true, true, true, true, false, false, false, false, false, false, false, false, false] rfl (by kernel_rfl) rfl rfl (by decide) (fun _ _ _ h => h) (fun _ => q_nilCheck hT rfl) ?_; clear hT; intro a hT
  refine d_pure (i := 9) hT #[true, true, true, true, true, true, true, true, true, true, false, false, false, false, false, false, false, false] rfl (by kernel_rfl) rfl rfl (by decide) (fun _ _ _ h => h) (fun _ => q_fieldAddr hT rfl Tryd.fld98_1 rfl) ?_; clear hT; intro a hT
  refine d_pure (i := 10) hT #[true, true, true, true, true, true, true, true, true, true, true, false, false, false, false, false, false, false] rfl (by kernel_rfl) rfl rfl (by decide) (fun _ _ _ h => h) (fun _ => q_fieldAddr hT rfl Tryd.fld36_0 rfl) ?_; clear hT; intro a hT
  refine d_pure (i := 12) hT #[true, true, true, true, true, true, true, true, true, true, true, false, true, false, false, false, false, false] rfl (by kernel_rfl) rfl rfl (by decide) (fun _ _ _ h => h) (fun _ => q_fieldAddr hT rfl Tryd.fld36_0 rfl) ?_; clear hT; intro a hT
  refine d_take (i := 11) hT #[true, true, true, true, true, true, true, true, true, true, true, true, true, false, false, false, false, false] rfl (by kernel_rfl) rfl rfl (by decide) (fun _ _ _ h => h) (fun _ hs => q_load_agg hT rfl Tryd.ty24 (Rd.ext (hR.rd 1 rfl 35 (ds := digC old.p) rfl) hs) rfl) hS ?_; clear hT; intro a hT
  refine d_take (i := 13) hT #[true, true, true, true, true, true, true, true, true, true, true, true, true, true, false, false, false, false] rfl (by kernel_rfl) rfl rfl (by decide) (fun _ _ _ h => h) (fun _ hs => q_load_agg hT rfl Tryd.ty24 (Rd.ext (hR.rd 0 rfl 0 (ds := digC l.p) rfl) hs) rfl) hS ?_; clear hT; intro a hT
  refine d_pure (i := 14) hT #[true, true, true, true, true, true, true, true, true, true, true, true, true, true, true, false, false, false] rfl (by kernel_rfl) rfl rfl (by decide) (fun _ _ _ h => h) (fun _ => (q_eq_agg hT rfl rfl Tryd.eqg24 (EqR.dig Tryd.arr24 Tryd.underlying5 old.p l.p) (by decide)).b (c := decide (old.p = l.p)) (b := false) (by simp [hne])) ?_; clear hT; intro a hT
  refine d_pure (i := 15) hT #[true, true, true, true, true, true, true, true, true, true, true, true, true, true, true, true, false, false] rfl (by kernel_rfl) rfl rfl (by decide) (fun _ _ _ h => h) (fun _ => (q_pick hT rfl rfl rfl).v (v := (Value.bool false)) rfl) ?_; clear hT; intro a hT
  refine d_pure (i := 16) hT #[true, true, true, true, true, true, true, true, true, true, true, true, true, true, true, true, true, false] rfl (by kernel_rfl) rfl rfl (by decide) (fun _ _ _ h => h) (fun _ => (q_pick hT rfl rfl rfl).v (v := (Value.bool false)) rfl) ?_; clear hT; intro a hT
  refine d_pure (i := 17) hT #[true, true, true, true, true, true, true, true, true, true, true, true, true, true, true, true, true, true] rfl (by kernel_rfl) rfl rfl (by decide) (fun _ _ _ h => h) (fun _ => q_assign hT rfl) ?_; clear hT; intro a hT
  refine d_done (by kernel_rfl) ?_; clear hR hS
  refine then_norm ?_
  refine c_false hT rfl rfl ?_
  refine c_seq ?_
  refine c_region ?_
  refine l_q hT (q_move hT rfl) rfl rfl (by decide) ?_; clear hT; intro a hT
  refine l_do rfl ?_
  refine w_callT (xs := [.tmp 31]) hT rfl (vs := [(vp b 0)]) rfl (args := #[(vp b 0)]) rfl Tryd.func45 rfl rfl (by decide) ((inner_some b none none _ (hL.rd 1 rfl 99 rfl)).mono ?_)
  rintro e w4 ⟨rfl, hX⟩
  refine ⟨_, rfl, ?_⟩; clear hT; intro a hT; replace hT : Tm 98 a ((32, (Value.bool false)) :: _) := hT
  replace hL := hL.ext hX
  refine l_q hT ((q_not hT rfl).b rfl) rfl rfl (by decide) ?_; clear hT; intro a hT
  refine l_q hT (q_assign hT rfl) rfl rfl (by decide) ?_; clear hT; intro a hT
  refine l_end ?_
  refine then_norm ?_
  refine c_true hT rfl rfl ?_
  refine c_seq ?_
  refine c_region ?_
  refine l_q hT (q_move hT rfl) rfl rfl (by decide) ?_; clear hT; intro a hT
  refine l_q hT (q_nilCheck hT rfl) rfl rfl (by decide) ?_; clear hT; intro a hT
  refine l_q hT (q_fieldAddr hT rfl Tryd.fld98_1 rfl) rfl rfl (by decide) ?_; clear hT; intro a hT
  refine l_q hT (q_load_agg hT rfl Tryd.ty36 (hL.rd 1 rfl 35 (ds := digC old.p ++ (digC old.v)) rfl) rfl) rfl rfl (by decide) ?_; clear hT; intro a hT
  refine l_do rfl ?_
  refine w_alloc hT hL (by decide) Tryd.ty36 ?_; clear hT hL; intro b2 a w5 hT hL hE hB
  refine l_do rfl ?_
  refine w_store hT hL 0 (c := digC Dig.zero ++ (digC Dig.zero)) rfl rfl Tryd.ty36 rfl (vs := digC old.p ++ (digC old.v)) rfl rfl (by first | decide | (simp [arr32_len, arr8_len, digC_len]; done) | (simp [arr32_len, arr8_len, digC_len]; omega)) rfl (c' := digC old.p ++ (digC old.v)) rfl ?_; clear hL; intro w6 hL hE
  replace hL : Vg.Loc (keys [(KT.leaf b old).ents 98]) w0 w6 ([[(b2, ob (digC old.p ++ (digC old.v)) 36)], [(b1, ob (digC l.p ++ (digC l.v)) 36)], [(b, ob ([(v32 0), (Value.int .i32 0), (v32 0)] ++ (digC Dig.zero ++ (digC old.p ++ (digC old.v ++ ([(Value.pointer none), (Value.pointer none)]))))) 98)]]) := hL
  refine l_end ?_
  refine then_norm ?_
  refine c_seq ?_
  refine c_region ?_
  refine l_q hT (q_load_agg hT rfl Tryd.ty36 (hL.rd 0 rfl 0 (ds := digC old.p ++ (digC old.v)) rfl) rfl) rfl rfl (by decide) ?_; clear hT; intro a hT
  refine l_q hT (q_build (ps := [(1, .tmp 38)]) (pv := [(1, (Value.agg (digC old.p ++ (digC old.v)).toArray))]) (v := .agg ([(v32 0), (Value.int .i32 0), (v32 0)] ++ (digC Dig.zero ++ (digC old.p ++ (digC old.v ++ ([(Value.pointer none), (Value.pointer none)]))))).toArray) hT rfl (fun _ => by kernel_rfl)) rfl rfl (by decide) ?_; clear hT; intro a hT
  refine l_do rfl ?_
  refine w_box hT hL (by decide) rfl (c := [(v32 0), (Value.int .i32 0), (v32 0)] ++ (digC Dig.zero ++ (digC old.p ++ (digC old.v ++ ([(Value.pointer none), (Value.pointer none)]))))) rfl ?_; clear hT hL; intro b3 a w7 hT hL hE hB
  refine l_q hT (q_build (ps := [(2, .tmp 40)]) (pv := [(2, (vp b3 0))]) (v := .agg ([(v32 0), (Value.int .i32 0), (v32 0)] ++ (digC Dig.zero ++ (digC Dig.zero ++ (digC Dig.zero ++ ([(vp b3 0), (Value.pointer none)]))))).toArray) hT rfl (fun _ => by kernel_rfl)) rfl rfl (by decide) ?_; clear hT; intro a hT
  refine l_do rfl ?_
  refine w_box hT hL (by decide) rfl (c := [(v32 0), (Value.int .i32 0), (v32 0)] ++ (digC Dig.zero ++ (digC Dig.zero ++ (digC Dig.zero ++ ([(vp b3 0), (Value.pointer none)]))))) rfl ?_; clear hT hL; intro b4 a w8 hT hL hE hB
  refine l_q hT (q_assign hT rfl) rfl rfl (by decide) ?_; clear hT; intro a hT
  refine l_end ?_
  refine then_norm ?_
  refine c_seq ?_
  refine c_region ?_
  refine l_q hT (q_fieldAddr hT rfl Tryd.fld36_0 rfl) rfl rfl (by decide) ?_; clear hT; intro a hT
  refine l_q hT (q_load_agg hT rfl Tryd.ty24 (hL.rd 2 rfl 0 (ds := digC old.p) rfl) rfl) rfl rfl (by decide) ?_; clear hT; intro a hT
  refine l_q hT (q_move hT rfl) rfl rfl (by decide) ?_; clear hT; intro a hT
  refine l_do rfl ?_
  refine w_callT (xs := [.tmp 44, .tmp 45]) hT rfl (vs := [(Value.agg (digC old.p).toArray), (vI (n : Int))]) rfl (args := #[(Value.agg (digC old.p).toArray), (vI (n : Int))]) rfl Tryd.func46 rfl rfl (by decide) ((sright_spec old.p n (by omega) _).mono ?_)
  rintro e w9 ⟨rfl, hX⟩
  refine ⟨_, rfl, ?_⟩; clear hT; intro a hT; replace hT : Tm 98 a ((46, (Value.bool (old.p.bit n))) :: _) := hT
  replace hL := hL.ext hX
  refine l_end ?_
  refine then_norm ?_
  refine c_if hT rfl (fun hc1 => ?_) (fun hc1 => ?_)
  · skip
    refine d_start' hL #[false, false, false, false, false, false, false, false, false, false, false, false, false, false, false, false] [12, 15] rfl rfl rfl ?_; clear hL; intro w10 hL hE; have hR := hL; have hS := Ext.refl w10
    refine d_pure (i := 0) hT #[true, false, false, false, false, false, false, false, false, false, false, false, false, false, false, false] rfl (by kernel_rfl) rfl rfl (by decide) (fun _ _ _ h => h) (fun _ => q_move hT rfl) ?_; clear hT; intro a hT
    refine d_pure (i := 1) hT #[true, true, false, false, false, false, false, false, false, false, false, false, false, false, false, false] rfl (by kernel_rfl) rfl rfl (by decide) (fun _ _ _ h => h) (fun _ => q_move hT rfl) ?_; clear hT; intro a hT
    refine d_pure (i := 2) hT #[true, true, true, false, false, false, false, false, false, false, false, false, false, false, false, false] rfl (by kernel_rfl) rfl rfl (by decide) (fun _ _ _ h => h) (fun _ => q_move hT rfl) ?_; clear hT; intro a hT
    refine d_pure (i := 3) hT #[true, true, true, true, false, false, false, false, false, false, false, false, false, false, false, false] rfl (by kernel_rfl) rfl rfl (by decide) (fun _ _ _ h => h) (fun _ => q_nilCheck hT rfl) ?_; clear hT; intro a hT
    refine d_pure (i := 4) hT #[true, true, true, true, true, false, false, false, false, false, false, false, false, false, false, false] rfl (by kernel_rfl) rfl rfl (by decide) (fun _ _ _ h => h) (fun _ => q_fieldAddr hT rfl Tryd.fld98_3 rfl) ?_; clear hT; intro a hT
    refine d_pure (i := 6) hT #[true, true, true, true, true, false, true, false, false, false, false, false, false, false, false, false] rfl (by kernel_rfl) rfl rfl (by decide) (fun _ _ _ h => h) (fun _ => q_move hT rfl) ?_; clear hT; intro a hT
    refine d_pure (i := 7) hT #[true, true, true, true, true, false, true, true, false, false, false, false, false, false, false, false] rfl (by kernel_rfl) rfl rfl (by decide) (fun _ _ _ h => h) (fun _ => q_nilCheck hT rfl) ?_; clear hT; intro a hT
    refine d_pure (i := 8) hT #[true, true, true, true, true, false, true, true, true, false, false, false, false, false, false, false] rfl (by kernel_rfl) rfl rfl (by decide) (fun _ _ _ h => h) (fun _ => q_fieldAddr hT rfl Tryd.fld98_2 rfl) ?_; clear hT; intro a hT
    refine d_take (i := 5) hT #[true, true, true, true, true, true, true, true, true, false, false, false, false, false, false, false] rfl (by kernel_rfl) rfl rfl (by decide) (fun _ _ _ h => h) (fun _ hs => q_load hT rfl Tryd.ty63 (Rd.ext (hR.rd 0 rfl 100 (ds := [(Value.pointer none)]) rfl) hs)) hS ?_; clear hT; intro a hT
    refine d_take (i := 9) hT #[true, true, true, true, true, true, true, true, true, true, false, false, false, false, false, false] rfl (by kernel_rfl) rfl rfl (by decide) (fun _ _ _ h => h) (fun _ hs => q_load hT rfl Tryd.ty63 (Rd.ext (hR.rd 0 rfl 99 (ds := [(vp b3 0)]) rfl) hs)) hS ?_; clear hT; intro a hT
    refine d_pure (i := 10) hT #[true, true, true, true, true, true, true, true, true, true, true, false, false, false, false, false] rfl (by kernel_rfl) rfl rfl (by decide) (fun _ _ _ h => h) (fun _ => q_nilCheck hT rfl) ?_; clear hT; intro a hT
    refine d_pure (i := 11) hT #[true, true, true, true, true, true, true, true, true, true, true, true, false, false, false, false] rfl (by kernel_rfl) rfl rfl (by decide) (fun _ _ _ h => h) (fun _ => q_fieldAddr hT rfl Tryd.fld98_2 rfl) ?_; clear hT; intro a hT
    refine d_one (i := 12) hT #[true, true, true, true, true, true, true, true, true, true, true, true, true, false, false, false] rfl (by kernel_rfl) rfl ?_
    refine w_store hT hL 0 (c := [(v32 0), (Value.int .i32 0), (v32 0)] ++ (digC Dig.zero ++ (digC Dig.zero ++ (digC Dig.zero ++ ([(vp b3 0), (Value.pointer none)]))))) rfl rfl Tryd.ty63 rfl (vs := [(Value.pointer none)]) rfl rfl (by first | decide | (simp [arr32_len, arr8_len, digC_len]; done) | (simp [arr32_len, arr8_len, digC_len]; omega)) rfl (c' := [(v32 0), (Value.int .i32 0), (v32 0)] ++ (digC Dig.zero ++ (digC Dig.zero ++ (digC Dig.zero ++ ([(Value.pointer none), (Value.pointer none)]))))) rfl ?_; clear hL; intro w11 hL hE
    replace hL : Vg.Loc (keys [(KT.leaf b old).ents 98]) w0 w11 ([[(b4, ob ([(v32 0), (Value.int .i32 0), (v32 0)] ++ (digC Dig.zero ++ (digC Dig.zero ++ (digC Dig.zero ++ ([(Value.pointer none), (Value.pointer none)]))))) 98)], [(b3, ob ([(v32 0), (Value.int .i32 0), (v32 0)] ++ (digC Dig.zero ++ (digC old.p ++ (digC old.v ++ ([(Value.pointer none), (Value.pointer none)]))))) 98)], [(b2, ob (digC old.p ++ (digC old.v)) 36)], [(b1, ob (digC l.p ++ (digC l.v)) 36)], [(b, ob ([(v32 0), (Value.int .i32 0), (v32 0)] ++ (digC Dig.zero ++ (digC old.p ++ (digC old.v ++ ([(Value.pointer none), (Value.pointer none)]))))) 98)]]) := hL
    refine ⟨fun hn => absurd (by decide) hn, ?_⟩
    refine d_pure (i := 13) hT #[true, true, true, true, true, true, true, true, true, true, true, true, true, true, false, false] rfl (by kernel_rfl) rfl rfl (by decide) (fun _ _ _ h => h) (fun _ => q_nilCheck hT rfl) ?_; clear hT; intro a hT
    refine d_pure (i := 14) hT #[true, true, true, true, true, true, true, true, true, true, true, true, true, true, true, false] rfl (by kernel_rfl) rfl rfl (by decide) (fun _ _ _ h => h) (fun _ => q_fieldAddr hT rfl Tryd.fld98_3 rfl) ?_; clear hT; intro a hT
    refine d_one (i := 15) hT #[true, true, true, true, true, true, true, true, true, true, true, true, true, true, true, true] rfl (by kernel_rfl) rfl ?_
    refine w_store hT hL 0 (c := [(v32 0), (Value.int .i32 0), (v32 0)] ++ (digC Dig.zero ++ (digC Dig.zero ++ (digC Dig.zero ++ ([(Value.pointer none), (Value.pointer none)]))))) rfl rfl Tryd.ty63 rfl (vs := [(vp b3 0)]) rfl rfl (by first | decide | (simp [arr32_len, arr8_len, digC_len]; done) | (simp [arr32_len, arr8_len, digC_len]; omega)) rfl (c' := [(v32 0), (Value.int .i32 0), (v32 0)] ++ (digC Dig.zero ++ (digC Dig.zero ++ (digC Dig.zero ++ ([(Value.pointer none), (vp b3 0)]))))) rfl ?_; clear hL; intro w12 hL hE
    replace hL : Vg.Loc (keys [(KT.leaf b old).ents 98]) w0 w12 ([[(b4, ob ([(v32 0), (Value.int .i32 0), (v32 0)] ++ (digC Dig.zero ++ (digC Dig.zero ++ (digC Dig.zero ++ ([(Value.pointer none), (vp b3 0)]))))) 98)], [(b3, ob ([(v32 0), (Value.int .i32 0), (v32 0)] ++ (digC Dig.zero ++ (digC old.p ++ (digC old.v ++ ([(Value.pointer none), (Value.pointer none)]))))) 98)], [(b2, ob (digC old.p ++ (digC old.v)) 36)], [(b1, ob (digC l.p ++ (digC l.v)) 36)], [(b, ob ([(v32 0), (Value.int .i32 0), (v32 0)] ++ (digC Dig.zero ++ (digC old.p ++ (digC old.v ++ ([(Value.pointer none), (Value.pointer none)]))))) 98)]]) := hL
    refine ⟨fun hn => absurd (by decide) hn, ?_⟩
    refine d_done (by kernel_rfl) ?_; clear hR hS
    refine blk_norm ?_
    refine then_norm ?_
    refine c_seq ?_
    refine d_start' hL #[false, false, false, false, false, false, false, false, false, false, false] [] rfl rfl rfl ?_; clear hL; intro w13 hL hE; have hR := hL; have hS := Ext.refl w13
    refine d_pure (i := 0) hT #[true, false, false, false, false, false, false, false, false, false, false] rfl (by kernel_rfl) rfl rfl (by decide) (fun _ _ _ h => h) (fun _ => q_move hT rfl) ?_; clear hT; intro a hT
    refine d_pure (i := 1) hT #[true, true, false, false, false, false, false, false, false, false, false] rfl (by kernel_rfl) rfl rfl (by decide) (fun _ _ _ h => h) (fun _ => q_nilCheck hT rfl) ?_; clear hT; intro a hT
    refine d_pure (i := 2) hT #[true, true, true, false, false, false, false, false, false, false, false] rfl (by kernel_rfl) rfl rfl (by decide) (fun _ _ _ h => h) (fun _ => q_fieldAddr hT rfl Tryd.fld98_2 rfl) ?_; clear hT; intro a hT
    refine d_pure (i := 4) hT #[true, true, true, false, true, false, false, false, false, false, false] rfl (by kernel_rfl) rfl rfl (by decide) (fun _ _ _ h => h) (fun _ => q_move hT rfl) ?_; clear hT; intro a hT
    refine d_pure (i := 5) hT #[true, true, true, false, true, true, false, false, false, false, false] rfl (by kernel_rfl) rfl rfl (by decide) (fun _ _ _ h => h) (fun _ => q_nilCheck hT rfl) ?_; clear hT; intro a hT
    refine d_pure (i := 6) hT #[true, true, true, false, true, true, true, false, false, false, false] rfl (by kernel_rfl) rfl rfl (by decide) (fun _ _ _ h => h) (fun _ => q_fieldAddr hT rfl Tryd.fld98_3 rfl) ?_; clear hT; intro a hT
    refine d_take (i := 3) hT #[true, true, true, true, true, true, true, false, false, false, false] rfl (by kernel_rfl) rfl rfl (by decide) (fun _ _ _ h => h) (fun _ hs => q_load hT rfl Tryd.ty63 (Rd.ext (hR.rd 0 rfl 99 (ds := [(Value.pointer none)]) rfl) hs)) hS ?_; clear hT; intro a hT
    refine d_take (i := 7) hT #[true, true, true, true, true, true, true, true, false, false, false] rfl (by kernel_rfl) rfl rfl (by decide) (fun _ _ _ h => h) (fun _ hs => q_load hT rfl Tryd.ty63 (Rd.ext (hR.rd 0 rfl 100 (ds := [(vp b3 0)]) rfl) hs)) hS ?_; clear hT; intro a hT
    refine d_pure (i := 8) hT #[true, true, true, true, true, true, true, true, true, false, false] rfl (by kernel_rfl) rfl rfl (by decide) (fun _ _ _ h => h) (fun _ => q_build (ps := [(2, .tmp 64), (3, .tmp 68)]) (pv := [(2, (Value.pointer none)), (3, (vp b3 0))]) (v := .agg ([(v32 0), (Value.int .i32 0), (v32 0)] ++ (digC Dig.zero ++ (digC Dig.zero ++ (digC Dig.zero ++ ([(Value.pointer none), (vp b3 0)]))))).toArray) hT rfl (fun _ => by kernel_rfl)) ?_; clear hT; intro a hT
    refine d_one (i := 9) hT #[true, true, true, true, true, true, true, true, true, true, false] rfl (by kernel_rfl) rfl ?_
    refine w_box hT hL (by decide) rfl (c := [(v32 0), (Value.int .i32 0), (v32 0)] ++ (digC Dig.zero ++ (digC Dig.zero ++ (digC Dig.zero ++ ([(Value.pointer none), (vp b3 0)]))))) rfl ?_; clear hT hL; intro b5 a w14 hT hL hE hB
    replace hS := Vg.Loc.ext hS hE; refine ⟨fun _ => hS, ?_⟩
    refine d_pure (i := 10) hT #[true, true, true, true, true, true, true, true, true, true, true] rfl (by kernel_rfl) rfl rfl (by decide) (fun _ _ _ h => h) (fun _ => q_assign hT rfl) ?_; clear hT; intro a hT
    refine d_done (by kernel_rfl) ?_; clear hR hS
    refine then_norm ?_
    refine c_seq ?_
    refine c_seq ?_
    refine c_region ?_
    refine l_q hT (q_fieldAddr hT rfl Tryd.fld36_0 rfl) rfl rfl (by decide) ?_; clear hT; intro a hT
    refine l_q hT (q_load_agg hT rfl Tryd.ty24 (hL.rd 4 rfl 0 (ds := digC l.p) rfl) rfl) rfl rfl (by decide) ?_; clear hT; intro a hT
    refine l_q hT (q_move hT rfl) rfl rfl (by decide) ?_; clear hT; intro a hT
    refine l_do rfl ?_
    refine w_callT (xs := [.tmp 72, .tmp 73]) hT rfl (vs := [(Value.agg (digC l.p).toArray), (vI (n : Int))]) rfl (args := #[(Value.agg (digC l.p).toArray), (vI (n : Int))]) rfl Tryd.func46 rfl rfl (by decide) ((sright_spec l.p n (by omega) _).mono ?_)
    rintro e w15 ⟨rfl, hX⟩
    refine ⟨_, rfl, ?_⟩; clear hT; intro a hT; replace hT : Tm 98 a ((74, (Value.bool (l.p.bit n))) :: _) := hT
    replace hL := hL.ext hX
    refine l_end ?_
    refine then_norm ?_
    refine c_if hT rfl (fun hc2 => ?_) (fun hc2 => ?_)
    · skip
      refine d_start' hL #[false, false, false, false, false, false, false, false, false, false, false, false] [8, 11] rfl rfl rfl ?_; clear hL; intro w16 hL hE; have hR := hL; have hS := Ext.refl w16
      refine d_pure (i := 0) hT #[true, false, false, false, false, false, false, false, false, false, false, false] rfl (by kernel_rfl) rfl rfl (by decide) (fun _ _ _ h => h) (fun _ => q_move hT rfl) ?_; clear hT; intro a hT
      refine d_pure (i := 1) hT #[true, true, false, false, false, false, false, false, false, false, false, false] rfl (by kernel_rfl) rfl rfl (by decide) (fun _ _ _ h => h) (fun _ => q_move hT rfl) ?_; clear hT; intro a hT
      refine d_pure (i := 2) hT #[true, true, true, false, false, false, false, false, false, false, false, false] rfl (by kernel_rfl) rfl rfl (by decide) (fun _ _ _ h => h) (fun _ => q_nilCheck hT rfl) ?_; clear hT; intro a hT
      refine d_pure (i := 3) hT #[true, true, true, true, false, false, false, false, false, false, false, false] rfl (by kernel_rfl) rfl rfl (by decide) (fun _ _ _ h => h) (fun _ => q_fieldAddr hT rfl Tryd.fld98_3 rfl) ?_; clear hT; intro a hT
      refine d_pure (i := 6) hT #[true, true, true, true, false, false, true, false, false, false, false, false] rfl (by kernel_rfl) rfl rfl (by decide) (fun _ _ _ h => h) (fun _ => q_move hT rfl) ?_; clear hT; intro a hT
      refine d_pure (i := 7) hT #[true, true, true, true, false, false, true, true, false, false, false, false] rfl (by kernel_rfl) rfl rfl (by decide) (fun _ _ _ h => h) (fun _ => (q_addI hT rfl rfl (r := (n : Int) + 1) rfl (by omega) (by omega)).v (v := (vI ((n + 1 : Nat) : Int))) (rfl)) ?_; clear hT; intro a hT
      refine d_take (i := 4) hT #[true, true, true, true, true, false, true, true, false, false, false, false] rfl (by kernel_rfl) rfl rfl (by decide) (fun _ _ _ h => h) (fun _ hs => q_load hT rfl Tryd.ty63 (Rd.ext (hR.rd 0 rfl 100 (ds := [(vp b3 0)]) rfl) hs)) hS ?_; clear hT; intro a hT
      refine d_take (i := 5) hT #[true, true, true, true, true, true, true, true, false, false, false, false] rfl (by kernel_rfl) rfl rfl (by decide) (fun _ _ _ h => h) (fun _ hs => q_load_agg hT rfl Tryd.ty36 (Rd.ext (hR.rd 4 rfl 0 (ds := digC l.p ++ (digC l.v)) rfl) hs) rfl) hS ?_; clear hT; intro a hT
      refine d_one (i := 8) hT #[true, true, true, true, true, true, true, true, true, false, false, false] rfl (by kernel_rfl) rfl ?_
      replace hL : Vg.Loc (keys [(KT.leaf b old).ents 98]) w0 w16 ([[(b3, ob ([(v32 0), (Value.int .i32 0), (v32 0)] ++ (digC Dig.zero ++ (digC old.p ++ (digC old.v ++ ([(Value.pointer none), (Value.pointer none)]))))) 98)], [(b5, ob ([(v32 0), (Value.int .i32 0), (v32 0)] ++ (digC Dig.zero ++ (digC Dig.zero ++ (digC Dig.zero ++ ([(Value.pointer none), (vp b3 0)]))))) 98)], [(b4, ob ([(v32 0), (Value.int .i32 0), (v32 0)] ++ (digC Dig.zero ++ (digC Dig.zero ++ (digC Dig.zero ++ ([(Value.pointer none), (vp b3 0)]))))) 98)], [(b2, ob (digC old.p ++ (digC old.v)) 36)], [(b1, ob (digC l.p ++ (digC l.v)) 36)], [(b, ob ([(v32 0), (Value.int .i32 0), (v32 0)] ++ (digC Dig.zero ++ (digC old.p ++ (digC old.v ++ ([(Value.pointer none), (Value.pointer none)]))))) 98)]]) := hL.front 2 rfl rfl
      refine w_callT (xs := [.tmp 79, .tmp 80, .tmp 82]) hT rfl (vs := [(vp b3 0), (Value.agg (digC l.p ++ (digC l.v)).toArray), (vI ((n + 1 : Nat) : Int))]) rfl (args := #[(vp b3 0), (Value.agg (digC l.p ++ (digC l.v)).toArray), (vI ((n + 1 : Nat) : Int))]) rfl Tryd.func32 rfl rfl (by decide) ((ih (KT.leaf b3 old) l [old] _ (by simp [Rep]) (by have := hg.ones; simpa [onesL, *] using this) (Vg.Loc.self (cs := [(KT.leaf b3 old).ents 98]) hL)).mono ?_)
      rintro e w17 ⟨t1, rfl, hX, hrep1⟩
      refine ⟨_, rfl, ?_⟩; clear hT; intro a hT; replace hT : Tm 98 a ((83, (Value.pointer t1.ad)) :: _) := hT
      replace hL : Vg.Loc (keys [(KT.leaf b old).ents 98]) w0 w17 ([t1.ents 98, [(b5, ob ([(v32 0), (Value.int .i32 0), (v32 0)] ++ (digC Dig.zero ++ (digC Dig.zero ++ (digC Dig.zero ++ ([(Value.pointer none), (vp b3 0)]))))) 98)], [(b4, ob ([(v32 0), (Value.int .i32 0), (v32 0)] ++ (digC Dig.zero ++ (digC Dig.zero ++ (digC Dig.zero ++ ([(Value.pointer none), (vp b3 0)]))))) 98)], [(b2, ob (digC old.p ++ (digC old.v)) 36)], [(b1, ob (digC l.p ++ (digC l.v)) 36)], [(b, ob ([(v32 0), (Value.int .i32 0), (v32 0)] ++ (digC Dig.zero ++ (digC old.p ++ (digC old.v ++ ([(Value.pointer none), (Value.pointer none)]))))) 98)]]) := Vg.Loc.call (ci := [[(b3, ob ([(v32 0), (Value.int .i32 0), (v32 0)] ++ (digC Dig.zero ++ (digC old.p ++ (digC old.v ++ ([(Value.pointer none), (Value.pointer none)]))))) 98)]]) (cr := [[(b5, ob ([(v32 0), (Value.int .i32 0), (v32 0)] ++ (digC Dig.zero ++ (digC Dig.zero ++ (digC Dig.zero ++ ([(Value.pointer none), (vp b3 0)]))))) 98)], [(b4, ob ([(v32 0), (Value.int .i32 0), (v32 0)] ++ (digC Dig.zero ++ (digC Dig.zero ++ (digC Dig.zero ++ ([(Value.pointer none), (vp b3 0)]))))) 98)], [(b2, ob (digC old.p ++ (digC old.v)) 36)], [(b1, ob (digC l.p ++ (digC l.v)) 36)], [(b, ob ([(v32 0), (Value.int .i32 0), (v32 0)] ++ (digC Dig.zero ++ (digC old.p ++ (digC old.v ++ ([(Value.pointer none), (Value.pointer none)]))))) 98)]]) hL hX
      refine ⟨fun hn => absurd (by decide) hn, ?_⟩
      refine d_pure (i := 9) hT #[true, true, true, true, true, true, true, true, true, true, false, false] rfl (by kernel_rfl) rfl rfl (by decide) (fun _ _ _ h => h) (fun _ => q_nilCheck hT rfl) ?_; clear hT; intro a hT
      refine d_pure (i := 10) hT #[true, true, true, true, true, true, true, true, true, true, true, false] rfl (by kernel_rfl) rfl rfl (by decide) (fun _ _ _ h => h) (fun _ => q_fieldAddr hT rfl Tryd.fld98_3 rfl) ?_; clear hT; intro a hT
      refine d_one (i := 11) hT #[true, true, true, true, true, true, true, true, true, true, true, true] rfl (by kernel_rfl) rfl ?_
      refine w_store hT hL 1 (c := [(v32 0), (Value.int .i32 0), (v32 0)] ++ (digC Dig.zero ++ (digC Dig.zero ++ (digC Dig.zero ++ ([(Value.pointer none), (vp b3 0)]))))) rfl rfl Tryd.ty63 rfl (vs := [(Value.pointer t1.ad)]) rfl rfl (by first | decide | (simp [arr32_len, arr8_len, digC_len]; done) | (simp [arr32_len, arr8_len, digC_len]; omega)) rfl (c' := [(v32 0), (Value.int .i32 0), (v32 0)] ++ (digC Dig.zero ++ (digC Dig.zero ++ (digC Dig.zero ++ ([(Value.pointer none), (Value.pointer t1.ad)]))))) rfl ?_; clear hL; intro w18 hL hE
      replace hL : Vg.Loc (keys [(KT.leaf b old).ents 98]) w0 w18 ([t1.ents 98, [(b5, ob ([(v32 0), (Value.int .i32 0), (v32 0)] ++ (digC Dig.zero ++ (digC Dig.zero ++ (digC Dig.zero ++ ([(Value.pointer none), (Value.pointer t1.ad)]))))) 98)], [(b4, ob ([(v32 0), (Value.int .i32 0), (v32 0)] ++ (digC Dig.zero ++ (digC Dig.zero ++ (digC Dig.zero ++ ([(Value.pointer none), (vp b3 0)]))))) 98)], [(b2, ob (digC old.p ++ (digC old.v)) 36)], [(b1, ob (digC l.p ++ (digC l.v)) 36)], [(b, ob ([(v32 0), (Value.int .i32 0), (v32 0)] ++ (digC Dig.zero ++ (digC old.p ++ (digC old.v ++ ([(Value.pointer none), (Value.pointer none)]))))) 98)]]) := hL
      refine ⟨fun hn => absurd (by decide) hn, ?_⟩
      refine d_done (by kernel_rfl) ?_; clear hR hS
      refine then_norm ?_
      refine c_seq ?_
      refine c_region ?_
      refine l_q hT (q_move hT rfl) rfl rfl (by decide) ?_; clear hT; intro a hT
      refine l_q hT (q_assign hT rfl) rfl rfl (by decide) ?_; clear hT; intro a hT
      refine l_end ?_
      refine then_norm ?_
      refine wp_ret ?_
      refine c_ret (vs := [(vp b5 0)]) (rs := [.tmp 6]) hT rfl (.tmp rfl .nil) ?_
      replace hL : Vg.Loc (keys [(KT.leaf b old).ents 98]) w0 w18 ([[(b5, ob ([(v32 0), (Value.int .i32 0), (v32 0)] ++ (digC Dig.zero ++ (digC Dig.zero ++ (digC Dig.zero ++ ([(Value.pointer none), (Value.pointer t1.ad)]))))) 98)], t1.ents 98, [(b4, ob ([(v32 0), (Value.int .i32 0), (v32 0)] ++ (digC Dig.zero ++ (digC Dig.zero ++ (digC Dig.zero ++ ([(Value.pointer none), (vp b3 0)]))))) 98)], [(b2, ob (digC old.p ++ (digC old.v)) 36)], [(b1, ob (digC l.p ++ (digC l.v)) 36)], [(b, ob ([(v32 0), (Value.int .i32 0), (v32 0)] ++ (digC Dig.zero ++ (digC old.p ++ (digC old.v ++ ([(Value.pointer none), (Value.pointer none)]))))) 98)]]) := hL.front 1 rfl rfl
      replace hL : Vg.Loc (keys [(KT.leaf b old).ents 98]) w0 w18 ([[(b5, ob ([(v32 0), (Value.int .i32 0), (v32 0)] ++ (digC Dig.zero ++ (digC Dig.zero ++ (digC Dig.zero ++ ([(Value.pointer none), (Value.pointer t1.ad)]))))) 98)], t1.ents 98]) := hL.sub (.cons_cons _ (.cons_cons _ (.cons _ (.cons _ (.cons _ (.cons _ .slnil))))))
      refine ⟨(KT.node b5 KT.nil t1), rfl, hL.join (by simp [KT.ents, knotC, KT.ad, noLeaf]), ?_⟩
      simp_all [Rep, zerosL, onesL]
    · skip
      refine d_start' hL #[false, false, false, false, false, false, false, false, false, false, false, false] [8, 11] rfl rfl rfl ?_; clear hL; intro w19 hL hE; have hR := hL; have hS := Ext.refl w19
      refine d_pure (i := 0) hT #[true, false, false, false, false, false, false, false, false, false, false, false] rfl (by kernel_rfl) rfl rfl (by decide) (fun _ _ _ h => h) (fun _ => q_move hT rfl) ?_; clear hT; intro a hT
      refine d_pure (i := 1) hT #[true, true, false, false, false, false, false, false, false, false, false, false] rfl (by kernel_rfl) rfl rfl (by decide) (fun _ _ _ h => h) (fun _ => q_move hT rfl) ?_; clear hT; intro a hT
      refine d_pure (i := 2) hT #[true, true, true, false, false, false, false, false, false, false, false, false] rfl (by kernel_rfl) rfl rfl (by decide) (fun _ _ _ h => h) (fun _ => q_nilCheck hT rfl) ?_; clear hT; intro a hT
      refine d_pure (i := 3) hT #[true, true, true, true, false, false, false, false, false, false, false, false] rfl (by kernel_rfl) rfl rfl (by decide) (fun _ _ _ h => h) (fun _ => q_fieldAddr hT rfl Tryd.fld98_2 rfl) ?_; clear hT; intro a hT
      refine d_pure (i := 6) hT #[true, true, true, true, false, false, true, false, false, false, false, false] rfl (by kernel_rfl) rfl rfl (by decide) (fun _ _ _ h => h) (fun _ => q_move hT rfl) ?_; clear hT; intro a hT
      refine d_pure (i := 7) hT #[true, true, true, true, false, false, true, true, false, false, false, false] rfl (by kernel_rfl) rfl rfl (by decide) (fun _ _ _ h => h) (fun _ => (q_addI hT rfl rfl (r := (n : Int) + 1) rfl (by omega) (by omega)).v (v := (vI ((n + 1 : Nat) : Int))) (rfl)) ?_; clear hT; intro a hT
      refine d_take (i := 4) hT #[true, true, true, true, true, false, true, true, false, false, false, false] rfl (by kernel_rfl) rfl rfl (by decide) (fun _ _ _ h => h) (fun _ hs => q_load hT rfl Tryd.ty63 (Rd.ext (hR.rd 0 rfl 99 (ds := [(Value.pointer none)]) rfl) hs)) hS ?_; clear hT; intro a hT
      refine d_take (i := 5) hT #[true, true, true, true, true, true, true, true, false, false, false, false] rfl (by kernel_rfl) rfl rfl (by decide) (fun _ _ _ h => h) (fun _ hs => q_load_agg hT rfl Tryd.ty36 (Rd.ext (hR.rd 4 rfl 0 (ds := digC l.p ++ (digC l.v)) rfl) hs) rfl) hS ?_; clear hT; intro a hT
      refine d_one (i := 8) hT #[true, true, true, true, true, true, true, true, true, false, false, false] rfl (by kernel_rfl) rfl ?_
      refine w_callT (xs := [.tmp 90, .tmp 91, .tmp 93]) hT rfl (vs := [(Value.pointer none), (Value.agg (digC l.p ++ (digC l.v)).toArray), (vI ((n + 1 : Nat) : Int))]) rfl (args := #[(Value.pointer none), (Value.agg (digC l.p ++ (digC l.v)).toArray), (vI ((n + 1 : Nat) : Int))]) rfl Tryd.func32 rfl rfl (by decide) ((with_nil l ((n + 1 : Nat) : Int) _).mono ?_)
      rintro e w20 ⟨bl1, rfl, hX⟩
      refine ⟨_, rfl, ?_⟩; clear hT; intro a hT; replace hT : Tm 98 a ((94, (vp bl1 0)) :: _) := hT
      replace hL : Vg.Loc (keys [(KT.leaf b old).ents 98]) w0 w20 ([[(bl1, ob ([(v32 0), (Value.int .i32 0), (v32 0)] ++ (digC Dig.zero ++ (digC l.p ++ (digC l.v ++ ([(Value.pointer none), (Value.pointer none)]))))) 98)], [(b5, ob ([(v32 0), (Value.int .i32 0), (v32 0)] ++ (digC Dig.zero ++ (digC Dig.zero ++ (digC Dig.zero ++ ([(Value.pointer none), (vp b3 0)]))))) 98)], [(b4, ob ([(v32 0), (Value.int .i32 0), (v32 0)] ++ (digC Dig.zero ++ (digC Dig.zero ++ (digC Dig.zero ++ ([(Value.pointer none), (vp b3 0)]))))) 98)], [(b3, ob ([(v32 0), (Value.int .i32 0), (v32 0)] ++ (digC Dig.zero ++ (digC old.p ++ (digC old.v ++ ([(Value.pointer none), (Value.pointer none)]))))) 98)], [(b2, ob (digC old.p ++ (digC old.v)) 36)], [(b1, ob (digC l.p ++ (digC l.v)) 36)], [(b, ob ([(v32 0), (Value.int .i32 0), (v32 0)] ++ (digC Dig.zero ++ (digC old.p ++ (digC old.v ++ ([(Value.pointer none), (Value.pointer none)]))))) 98)]]) := hL.exts hX
      refine ⟨fun hn => absurd (by decide) hn, ?_⟩
      refine d_pure (i := 9) hT #[true, true, true, true, true, true, true, true, true, true, false, false] rfl (by kernel_rfl) rfl rfl (by decide) (fun _ _ _ h => h) (fun _ => q_nilCheck hT rfl) ?_; clear hT; intro a hT
      refine d_pure (i := 10) hT #[true, true, true, true, true, true, true, true, true, true, true, false] rfl (by kernel_rfl) rfl rfl (by decide) (fun _ _ _ h => h) (fun _ => q_fieldAddr hT rfl Tryd.fld98_2 rfl) ?_; clear hT; intro a hT
      refine d_one (i := 11) hT #[true, true, true, true, true, true, true, true, true, true, true, true] rfl (by kernel_rfl) rfl ?_
      refine w_store hT hL 1 (c := [(v32 0), (Value.int .i32 0), (v32 0)] ++ (digC Dig.zero ++ (digC Dig.zero ++ (digC Dig.zero ++ ([(Value.pointer none), (vp b3 0)]))))) rfl rfl Tryd.ty63 rfl (vs := [(vp bl1 0)]) rfl rfl (by first | decide | (simp [arr32_len, arr8_len, digC_len]; done) | (simp [arr32_len, arr8_len, digC_len]; omega)) rfl (c' := [(v32 0), (Value.int .i32 0), (v32 0)] ++ (digC Dig.zero ++ (digC Dig.zero ++ (digC Dig.zero ++ ([(vp bl1 0), (vp b3 0)]))))) rfl ?_; clear hL; intro w21 hL hE
      replace hL : Vg.Loc (keys [(KT.leaf b old).ents 98]) w0 w21 ([[(bl1, ob ([(v32 0), (Value.int .i32 0), (v32 0)] ++ (digC Dig.zero ++ (digC l.p ++ (digC l.v ++ ([(Value.pointer none), (Value.pointer none)]))))) 98)], [(b5, ob ([(v32 0), (Value.int .i32 0), (v32 0)] ++ (digC Dig.zero ++ (digC Dig.zero ++ (digC Dig.zero ++ ([(vp bl1 0), (vp b3 0)]))))) 98)], [(b4, ob ([(v32 0), (Value.int .i32 0), (v32 0)] ++ (digC Dig.zero ++ (digC Dig.zero ++ (digC Dig.zero ++ ([(Value.pointer none), (vp b3 0)]))))) 98)], [(b3, ob ([(v32 0), (Value.int .i32 0), (v32 0)] ++ (digC Dig.zero ++ (digC old.p ++ (digC old.v ++ ([(Value.pointer none), (Value.pointer none)]))))) 98)], [(b2, ob (digC old.p ++ (digC old.v)) 36)], [(b1, ob (digC l.p ++ (digC l.v)) 36)], [(b, ob ([(v32 0), (Value.int .i32 0), (v32 0)] ++ (digC Dig.zero ++ (digC old.p ++ (digC old.v ++ ([(Value.pointer none), (Value.pointer none)]))))) 98)]]) := hL
      refine ⟨fun hn => absurd (by decide) hn, ?_⟩
      refine d_done (by kernel_rfl) ?_; clear hR hS
      refine then_norm ?_
      refine c_seq ?_
      refine c_region ?_
      refine l_q hT (q_move hT rfl) rfl rfl (by decide) ?_; clear hT; intro a hT
      refine l_q hT (q_assign hT rfl) rfl rfl (by decide) ?_; clear hT; intro a hT
      refine l_end ?_
      refine then_norm ?_
      refine wp_ret ?_
      refine c_ret (vs := [(vp b5 0)]) (rs := [.tmp 6]) hT rfl (.tmp rfl .nil) ?_
      replace hL : Vg.Loc (keys [(KT.leaf b old).ents 98]) w0 w21 ([[(b3, ob ([(v32 0), (Value.int .i32 0), (v32 0)] ++ (digC Dig.zero ++ (digC old.p ++ (digC old.v ++ ([(Value.pointer none), (Value.pointer none)]))))) 98)], [(bl1, ob ([(v32 0), (Value.int .i32 0), (v32 0)] ++ (digC Dig.zero ++ (digC l.p ++ (digC l.v ++ ([(Value.pointer none), (Value.pointer none)]))))) 98)], [(b5, ob ([(v32 0), (Value.int .i32 0), (v32 0)] ++ (digC Dig.zero ++ (digC Dig.zero ++ (digC Dig.zero ++ ([(vp bl1 0), (vp b3 0)]))))) 98)], [(b4, ob ([(v32 0), (Value.int .i32 0), (v32 0)] ++ (digC Dig.zero ++ (digC Dig.zero ++ (digC Dig.zero ++ ([(Value.pointer none), (vp b3 0)]))))) 98)], [(b2, ob (digC old.p ++ (digC old.v)) 36)], [(b1, ob (digC l.p ++ (digC l.v)) 36)], [(b, ob ([(v32 0), (Value.int .i32 0), (v32 0)] ++ (digC Dig.zero ++ (digC old.p ++ (digC old.v ++ ([(Value.pointer none), (Value.pointer none)]))))) 98)]]) := hL.front 3 rfl rfl
      replace hL : Vg.Loc (keys [(KT.leaf b old).ents 98]) w0 w21 ([[(bl1, ob ([(v32 0), (Value.int .i32 0), (v32 0)] ++ (digC Dig.zero ++ (digC l.p ++ (digC l.v ++ ([(Value.pointer none), (Value.pointer none)]))))) 98)], [(b3, ob ([(v32 0), (Value.int .i32 0), (v32 0)] ++ (digC Dig.zero ++ (digC old.p ++ (digC old.v ++ ([(Value.pointer none), (Value.pointer none)]))))) 98)], [(b5, ob ([(v32 0), (Value.int .i32 0), (v32 0)] ++ (digC Dig.zero ++ (digC Dig.zero ++ (digC Dig.zero ++ ([(vp bl1 0), (vp b3 0)]))))) 98)], [(b4, ob ([(v32 0), (Value.int .i32 0), (v32 0)] ++ (digC Dig.zero ++ (digC Dig.zero ++ (digC Dig.zero ++ ([(Value.pointer none), (vp b3 0)]))))) 98)], [(b2, ob (digC old.p ++ (digC old.v)) 36)], [(b1, ob (digC l.p ++ (digC l.v)) 36)], [(b, ob ([(v32 0), (Value.int .i32 0), (v32 0)] ++ (digC Dig.zero ++ (digC old.p ++ (digC old.v ++ ([(Value.pointer none), (Value.pointer none)]))))) 98)]]) := hL.front 1 rfl rfl
      replace hL : Vg.Loc (keys [(KT.leaf b old).ents 98]) w0 w21 ([[(b5, ob ([(v32 0), (Value.int .i32 0), (v32 0)] ++ (digC Dig.zero ++ (digC Dig.zero ++ (digC Dig.zero ++ ([(vp bl1 0), (vp b3 0)]))))) 98)], [(bl1, ob ([(v32 0), (Value.int .i32 0), (v32 0)] ++ (digC Dig.zero ++ (digC l.p ++ (digC l.v ++ ([(Value.pointer none), (Value.pointer none)]))))) 98)], [(b3, ob ([(v32 0), (Value.int .i32 0), (v32 0)] ++ (digC Dig.zero ++ (digC old.p ++ (digC old.v ++ ([(Value.pointer none), (Value.pointer none)]))))) 98)], [(b4, ob ([(v32 0), (Value.int .i32 0), (v32 0)] ++ (digC Dig.zero ++ (digC Dig.zero ++ (digC Dig.zero ++ ([(Value.pointer none), (vp b3 0)]))))) 98)], [(b2, ob (digC old.p ++ (digC old.v)) 36)], [(b1, ob (digC l.p ++ (digC l.v)) 36)], [(b, ob ([(v32 0), (Value.int .i32 0), (v32 0)] ++ (digC Dig.zero ++ (digC old.p ++ (digC old.v ++ ([(Value.pointer none), (Value.pointer none)]))))) 98)]]) := hL.front 2 rfl rfl
      replace hL : Vg.Loc (keys [(KT.leaf b old).ents 98]) w0 w21 ([[(b5, ob ([(v32 0), (Value.int .i32 0), (v32 0)] ++ (digC Dig.zero ++ (digC Dig.zero ++ (digC Dig.zero ++ ([(vp bl1 0), (vp b3 0)]))))) 98)], [(bl1, ob ([(v32 0), (Value.int .i32 0), (v32 0)] ++ (digC Dig.zero ++ (digC l.p ++ (digC l.v ++ ([(Value.pointer none), (Value.pointer none)]))))) 98)], [(b3, ob ([(v32 0), (Value.int .i32 0), (v32 0)] ++ (digC Dig.zero ++ (digC old.p ++ (digC old.v ++ ([(Value.pointer none), (Value.pointer none)]))))) 98)]]) := hL.sub (.cons_cons _ (.cons_cons _ (.cons_cons _ (.cons _ (.cons _ (.cons _ (.cons _ .slnil)))))))
      refine ⟨(KT.node b5 (KT.leaf bl1 l) (KT.leaf b3 old)), rfl, hL.join (by simp [KT.ents, knotC, KT.ad, noLeaf]), ?_⟩
      simp_all [Rep, zerosL, onesL]
  · skip
    refine wp_skip ?_
    refine blk_norm ?_
    refine then_norm ?_
    refine c_seq ?_
    refine d_start' hL #[false, false, false, false, false, false, false, false, false, false, false] [] rfl rfl rfl ?_; clear hL; intro w22 hL hE; have hR := hL; have hS := Ext.refl w22
    refine d_pure (i := 0) hT #[true, false, false, false, false, false, false, false, false, false, false] rfl (by kernel_rfl) rfl rfl (by decide) (fun _ _ _ h => h) (fun _ => q_move hT rfl) ?_; clear hT; intro a hT
    refine d_pure (i := 1) hT #[true, true, false, false, false, false, false, false, false, false, false] rfl (by kernel_rfl) rfl rfl (by decide) (fun _ _ _ h => h) (fun _ => q_nilCheck hT rfl) ?_; clear hT; intro a hT
    refine d_pure (i := 2) hT #[true, true, true, false, false, false, false, false, false, false, false] rfl (by kernel_rfl) rfl rfl (by decide) (fun _ _ _ h => h) (fun _ => q_fieldAddr hT rfl Tryd.fld98_2 rfl) ?_; clear hT; intro a hT
    refine d_pure (i := 4) hT #[true, true, true, false, true, false, false, false, false, false, false] rfl (by kernel_rfl) rfl rfl (by decide) (fun _ _ _ h => h) (fun _ => q_move hT rfl) ?_; clear hT; intro a hT
    refine d_pure (i := 5) hT #[true, true, true, false, true, true, false, false, false, false, false] rfl (by kernel_rfl) rfl rfl (by decide) (fun _ _ _ h => h) (fun _ => q_nilCheck hT rfl) ?_; clear hT; intro a hT
    refine d_pure (i := 6) hT #[true, true, true, false, true, true, true, false, false, false, false] rfl (by kernel_rfl) rfl rfl (by decide) (fun _ _ _ h => h) (fun _ => q_fieldAddr hT rfl Tryd.fld98_3 rfl) ?_; clear hT; intro a hT
    refine d_take (i := 3) hT #[true, true, true, true, true, true, true, false, false, false, false] rfl (by kernel_rfl) rfl rfl (by decide) (fun _ _ _ h => h) (fun _ hs => q_load hT rfl Tryd.ty63 (Rd.ext (hR.rd 0 rfl 99 (ds := [(vp b3 0)]) rfl) hs)) hS ?_; clear hT; intro a hT
    refine d_take (i := 7) hT #[true, true, true, true, true, true, true, true, false, false, false] rfl (by kernel_rfl) rfl rfl (by decide) (fun _ _ _ h => h) (fun _ hs => q_load hT rfl Tryd.ty63 (Rd.ext (hR.rd 0 rfl 100 (ds := [(Value.pointer none)]) rfl) hs)) hS ?_; clear hT; intro a hT
    refine d_pure (i := 8) hT #[true, true, true, true, true, true, true, true, true, false, false] rfl (by kernel_rfl) rfl rfl (by decide) (fun _ _ _ h => h) (fun _ => q_build (ps := [(2, .tmp 64), (3, .tmp 68)]) (pv := [(2, (vp b3 0)), (3, (Value.pointer none))]) (v := .agg ([(v32 0), (Value.int .i32 0), (v32 0)] ++ (digC Dig.zero ++ (digC Dig.zero ++ (digC Dig.zero ++ ([(vp b3 0), (Value.pointer none)]))))).toArray) hT rfl (fun _ => by kernel_rfl)) ?_; clear hT; intro a hT
    refine d_one (i := 9) hT #[true, true, true, true, true, true, true, true, true, true, false] rfl (by kernel_rfl) rfl ?_
    refine w_box hT hL (by decide) rfl (c := [(v32 0), (Value.int .i32 0), (v32 0)] ++ (digC Dig.zero ++ (digC Dig.zero ++ (digC Dig.zero ++ ([(vp b3 0), (Value.pointer none)]))))) rfl ?_; clear hT hL; intro b6 a w23 hT hL hE hB
    replace hS := Vg.Loc.ext hS hE; refine ⟨fun _ => hS, ?_⟩
    refine d_pure (i := 10) hT #[true, true, true, true, true, true, true, true, true, true, true] rfl (by kernel_rfl) rfl rfl (by decide) (fun _ _ _ h => h) (fun _ => q_assign hT rfl) ?_; clear hT; intro a hT
    refine d_done (by kernel_rfl) ?_; clear hR hS
    refine then_norm ?_
    refine c_seq ?_
    refine c_seq ?_
    refine c_region ?_
    refine l_q hT (q_fieldAddr hT rfl Tryd.fld36_0 rfl) rfl rfl (by decide) ?_; clear hT; intro a hT
    refine l_q hT (q_load_agg hT rfl Tryd.ty24 (hL.rd 4 rfl 0 (ds := digC l.p) rfl) rfl) rfl rfl (by decide) ?_; clear hT; intro a hT
    refine l_q hT (q_move hT rfl) rfl rfl (by decide) ?_; clear hT; intro a hT
    refine l_do rfl ?_
    refine w_callT (xs := [.tmp 72, .tmp 73]) hT rfl (vs := [(Value.agg (digC l.p).toArray), (vI (n : Int))]) rfl (args := #[(Value.agg (digC l.p).toArray), (vI (n : Int))]) rfl Tryd.func46 rfl rfl (by decide) ((sright_spec l.p n (by omega) _).mono ?_)
    rintro e w24 ⟨rfl, hX⟩
    refine ⟨_, rfl, ?_⟩; clear hT; intro a hT; replace hT : Tm 98 a ((74, (Value.bool (l.p.bit n))) :: _) := hT
    replace hL := hL.ext hX
    refine l_end ?_
    refine then_norm ?_
    refine c_if hT rfl (fun hc3 => ?_) (fun hc3 => ?_)
    · skip
      refine d_start' hL #[false, false, false, false, false, false, false, false, false, false, false, false] [8, 11] rfl rfl rfl ?_; clear hL; intro w25 hL hE; have hR := hL; have hS := Ext.refl w25
      refine d_pure (i := 0) hT #[true, false, false, false, false, false, false, false, false, false, false, false] rfl (by kernel_rfl) rfl rfl (by decide) (fun _ _ _ h => h) (fun _ => q_move hT rfl) ?_; clear hT; intro a hT
      refine d_pure (i := 1) hT #[true, true, false, false, false, false, false, false, false, false, false, false] rfl (by kernel_rfl) rfl rfl (by decide) (fun _ _ _ h => h) (fun _ => q_move hT rfl) ?_; clear hT; intro a hT
      refine d_pure (i := 2) hT #[true, true, true, false, false, false, false, false, false, false, false, false] rfl (by kernel_rfl) rfl rfl (by decide) (fun _ _ _ h => h) (fun _ => q_nilCheck hT rfl) ?_; clear hT; intro a hT
      refine d_pure (i := 3) hT #[true, true, true, true, false, false, false, false, false, false, false, false] rfl (by kernel_rfl) rfl rfl (by decide) (fun _ _ _ h => h) (fun _ => q_fieldAddr hT rfl Tryd.fld98_3 rfl) ?_; clear hT; intro a hT
      refine d_pure (i := 6) hT #[true, true, true, true, false, false, true, false, false, false, false, false] rfl (by kernel_rfl) rfl rfl (by decide) (fun _ _ _ h => h) (fun _ => q_move hT rfl) ?_; clear hT; intro a hT
      refine d_pure (i := 7) hT #[true, true, true, true, false, false, true, true, false, false, false, false] rfl (by kernel_rfl) rfl rfl (by decide) (fun _ _ _ h => h) (fun _ => (q_addI hT rfl rfl (r := (n : Int) + 1) rfl (by omega) (by omega)).v (v := (vI ((n + 1 : Nat) : Int))) (rfl)) ?_; clear hT; intro a hT
      refine d_take (i := 4) hT #[true, true, true, true, true, false, true, true, false, false, false, false] rfl (by kernel_rfl) rfl rfl (by decide) (fun _ _ _ h => h) (fun _ hs => q_load hT rfl Tryd.ty63 (Rd.ext (hR.rd 0 rfl 100 (ds := [(Value.pointer none)]) rfl) hs)) hS ?_; clear hT; intro a hT
      refine d_take (i := 5) hT #[true, true, true, true, true, true, true, true, false, false, false, false] rfl (by kernel_rfl) rfl rfl (by decide) (fun _ _ _ h => h) (fun _ hs => q_load_agg hT rfl Tryd.ty36 (Rd.ext (hR.rd 4 rfl 0 (ds := digC l.p ++ (digC l.v)) rfl) hs) rfl) hS ?_; clear hT; intro a hT
      refine d_one (i := 8) hT #[true, true, true, true, true, true, true, true, true, false, false, false] rfl (by kernel_rfl) rfl ?_
      refine w_callT (xs := [.tmp 79, .tmp 80, .tmp 82]) hT rfl (vs := [(Value.pointer none), (Value.agg (digC l.p ++ (digC l.v)).toArray), (vI ((n + 1 : Nat) : Int))]) rfl (args := #[(Value.pointer none), (Value.agg (digC l.p ++ (digC l.v)).toArray), (vI ((n + 1 : Nat) : Int))]) rfl Tryd.func32 rfl rfl (by decide) ((with_nil l ((n + 1 : Nat) : Int) _).mono ?_)
      rintro e w26 ⟨bl2, rfl, hX⟩
      refine ⟨_, rfl, ?_⟩; clear hT; intro a hT; replace hT : Tm 98 a ((83, (vp bl2 0)) :: _) := hT
      replace hL : Vg.Loc (keys [(KT.leaf b old).ents 98]) w0 w26 ([[(bl2, ob ([(v32 0), (Value.int .i32 0), (v32 0)] ++ (digC Dig.zero ++ (digC l.p ++ (digC l.v ++ ([(Value.pointer none), (Value.pointer none)]))))) 98)], [(b6, ob ([(v32 0), (Value.int .i32 0), (v32 0)] ++ (digC Dig.zero ++ (digC Dig.zero ++ (digC Dig.zero ++ ([(vp b3 0), (Value.pointer none)]))))) 98)], [(b4, ob ([(v32 0), (Value.int .i32 0), (v32 0)] ++ (digC Dig.zero ++ (digC Dig.zero ++ (digC Dig.zero ++ ([(vp b3 0), (Value.pointer none)]))))) 98)], [(b3, ob ([(v32 0), (Value.int .i32 0), (v32 0)] ++ (digC Dig.zero ++ (digC old.p ++ (digC old.v ++ ([(Value.pointer none), (Value.pointer none)]))))) 98)], [(b2, ob (digC old.p ++ (digC old.v)) 36)], [(b1, ob (digC l.p ++ (digC l.v)) 36)], [(b, ob ([(v32 0), (Value.int .i32 0), (v32 0)] ++ (digC Dig.zero ++ (digC old.p ++ (digC old.v ++ ([(Value.pointer none), (Value.pointer none)]))))) 98)]]) := hL.exts hX
      refine ⟨fun hn => absurd (by decide) hn, ?_⟩
      refine d_pure (i := 9) hT #[true, true, true, true, true, true, true, true, true, true, false, false] rfl (by kernel_rfl) rfl rfl (by decide) (fun _ _ _ h => h) (fun _ => q_nilCheck hT rfl) ?_; clear hT; intro a hT
      refine d_pure (i := 10) hT #[true, true, true, true, true, true, true, true, true, true, true, false] rfl (by kernel_rfl) rfl rfl (by decide) (fun _ _ _ h => h) (fun _ => q_fieldAddr hT rfl Tryd.fld98_3 rfl) ?_; clear hT; intro a hT
      refine d_one (i := 11) hT #[true, true, true, true, true, true, true, true, true, true, true, true] rfl (by kernel_rfl) rfl ?_
      refine w_store hT hL 1 (c := [(v32 0), (Value.int .i32 0), (v32 0)] ++ (digC Dig.zero ++ (digC Dig.zero ++ (digC Dig.zero ++ ([(vp b3 0), (Value.pointer none)]))))) rfl rfl Tryd.ty63 rfl (vs := [(vp bl2 0)]) rfl rfl (by first | decide | (simp [arr32_len, arr8_len, digC_len]; done) | (simp [arr32_len, arr8_len, digC_len]; omega)) rfl (c' := [(v32 0), (Value.int .i32 0), (v32 0)] ++ (digC Dig.zero ++ (digC Dig.zero ++ (digC Dig.zero ++ ([(vp b3 0), (vp bl2 0)]))))) rfl ?_; clear hL; intro w27 hL hE
      replace hL : Vg.Loc (keys [(KT.leaf b old).ents 98]) w0 w27 ([[(bl2, ob ([(v32 0), (Value.int .i32 0), (v32 0)] ++ (digC Dig.zero ++ (digC l.p ++ (digC l.v ++ ([(Value.pointer none), (Value.pointer none)]))))) 98)], [(b6, ob ([(v32 0), (Value.int .i32 0), (v32 0)] ++ (digC Dig.zero ++ (digC Dig.zero ++ (digC Dig.zero ++ ([(vp b3 0), (vp bl2 0)]))))) 98)], [(b4, ob ([(v32 0), (Value.int .i32 0), (v32 0)] ++ (digC Dig.zero ++ (digC Dig.zero ++ (digC Dig.zero ++ ([(vp b3 0), (Value.pointer none)]))))) 98)], [(b3, ob ([(v32 0), (Value.int .i32 0), (v32 0)] ++ (digC Dig.zero ++ (digC old.p ++ (digC old.v ++ ([(Value.pointer none), (Value.pointer none)]))))) 98)], [(b2, ob (digC old.p ++ (digC old.v)) 36)], [(b1, ob (digC l.p ++ (digC l.v)) 36)], [(b, ob ([(v32 0), (Value.int .i32 0), (v32 0)] ++ (digC Dig.zero ++ (digC old.p ++ (digC old.v ++ ([(Value.pointer none), (Value.pointer none)]))))) 98)]]) := hL
      refine ⟨fun hn => absurd (by decide) hn, ?_⟩
      refine d_done (by kernel_rfl) ?_; clear hR hS
      refine then_norm ?_
      refine c_seq ?_
      refine c_region ?_
      refine l_q hT (q_move hT rfl) rfl rfl (by decide) ?_; clear hT; intro a hT
      refine l_q hT (q_assign hT rfl) rfl rfl (by decide) ?_; clear hT; intro a hT
      refine l_end ?_
      refine then_norm ?_
      refine wp_ret ?_
      refine c_ret (vs := [(vp b6 0)]) (rs := [.tmp 6]) hT rfl (.tmp rfl .nil) ?_
      replace hL : Vg.Loc (keys [(KT.leaf b old).ents 98]) w0 w27 ([[(b3, ob ([(v32 0), (Value.int .i32 0), (v32 0)] ++ (digC Dig.zero ++ (digC old.p ++ (digC old.v ++ ([(Value.pointer none), (Value.pointer none)]))))) 98)], [(bl2, ob ([(v32 0), (Value.int .i32 0), (v32 0)] ++ (digC Dig.zero ++ (digC l.p ++ (digC l.v ++ ([(Value.pointer none), (Value.pointer none)]))))) 98)], [(b6, ob ([(v32 0), (Value.int .i32 0), (v32 0)] ++ (digC Dig.zero ++ (digC Dig.zero ++ (digC Dig.zero ++ ([(vp b3 0), (vp bl2 0)]))))) 98)], [(b4, ob ([(v32 0), (Value.int .i32 0), (v32 0)] ++ (digC Dig.zero ++ (digC Dig.zero ++ (digC Dig.zero ++ ([(vp b3 0), (Value.pointer none)]))))) 98)], [(b2, ob (digC old.p ++ (digC old.v)) 36)], [(b1, ob (digC l.p ++ (digC l.v)) 36)], [(b, ob ([(v32 0), (Value.int .i32 0), (v32 0)] ++ (digC Dig.zero ++ (digC old.p ++ (digC old.v ++ ([(Value.pointer none), (Value.pointer none)]))))) 98)]]) := hL.front 3 rfl rfl
      replace hL : Vg.Loc (keys [(KT.leaf b old).ents 98]) w0 w27 ([[(b6, ob ([(v32 0), (Value.int .i32 0), (v32 0)] ++ (digC Dig.zero ++ (digC Dig.zero ++ (digC Dig.zero ++ ([(vp b3 0), (vp bl2 0)]))))) 98)], [(b3, ob ([(v32 0), (Value.int .i32 0), (v32 0)] ++ (digC Dig.zero ++ (digC old.p ++ (digC old.v ++ ([(Value.pointer none), (Value.pointer none)]))))) 98)], [(bl2, ob ([(v32 0), (Value.int .i32 0), (v32 0)] ++ (digC Dig.zero ++ (digC l.p ++ (digC l.v ++ ([(Value.pointer none), (Value.pointer none)]))))) 98)], [(b4, ob ([(v32 0), (Value.int .i32 0), (v32 0)] ++ (digC Dig.zero ++ (digC Dig.zero ++ (digC Dig.zero ++ ([(vp b3 0), (Value.pointer none)]))))) 98)], [(b2, ob (digC old.p ++ (digC old.v)) 36)], [(b1, ob (digC l.p ++ (digC l.v)) 36)], [(b, ob ([(v32 0), (Value.int .i32 0), (v32 0)] ++ (digC Dig.zero ++ (digC old.p ++ (digC old.v ++ ([(Value.pointer none), (Value.pointer none)]))))) 98)]]) := hL.front 2 rfl rfl
      replace hL : Vg.Loc (keys [(KT.leaf b old).ents 98]) w0 w27 ([[(b6, ob ([(v32 0), (Value.int .i32 0), (v32 0)] ++ (digC Dig.zero ++ (digC Dig.zero ++ (digC Dig.zero ++ ([(vp b3 0), (vp bl2 0)]))))) 98)], [(b3, ob ([(v32 0), (Value.int .i32 0), (v32 0)] ++ (digC Dig.zero ++ (digC old.p ++ (digC old.v ++ ([(Value.pointer none), (Value.pointer none)]))))) 98)], [(bl2, ob ([(v32 0), (Value.int .i32 0), (v32 0)] ++ (digC Dig.zero ++ (digC l.p ++ (digC l.v ++ ([(Value.pointer none), (Value.pointer none)]))))) 98)]]) := hL.sub (.cons_cons _ (.cons_cons _ (.cons_cons _ (.cons _ (.cons _ (.cons _ (.cons _ .slnil)))))))
      refine ⟨(KT.node b6 (KT.leaf b3 old) (KT.leaf bl2 l)), rfl, hL.join (by simp [KT.ents, knotC, KT.ad, noLeaf]), ?_⟩
      simp_all [Rep, zerosL, onesL]
    · skip
      refine d_start' hL #[false, false, false, false, false, false, false, false, false, false, false, false] [8, 11] rfl rfl rfl ?_; clear hL; intro w28 hL hE; have hR := hL; have hS := Ext.refl w28
      refine d_pure (i := 0) hT #[true, false, false, false, false, false, false, false, false, false, false, false] rfl (by kernel_rfl) rfl rfl (by decide) (fun _ _ _ h => h) (fun _ => q_move hT rfl) ?_; clear hT; intro a hT
      refine d_pure (i := 1) hT #[true, true, false, false, false, false, false, false, false, false, false, false] rfl (by kernel_rfl) rfl rfl (by decide) (fun _ _ _ h => h) (fun _ => q_move hT rfl) ?_; clear hT; intro a hT
      refine d_pure (i := 2) hT #[true, true, true, false, false, false, false, false, false, false, false, false] rfl (by kernel_rfl) rfl rfl (by decide) (fun _ _ _ h => h) (fun _ => q_nilCheck hT rfl) ?_; clear hT; intro a hT
      refine d_pure (i := 3) hT #[true, true, true, true, false, false, false, false, false, false, false, false] rfl (by kernel_rfl) rfl rfl (by decide) (fun _ _ _ h => h) (fun _ => q_fieldAddr hT rfl Tryd.fld98_2 rfl) ?_; clear hT; intro a hT
      refine d_pure (i := 6) hT #[true, true, true, true, false, false, true, false, false, false, false, false] rfl (by kernel_rfl) rfl rfl (by decide) (fun _ _ _ h => h) (fun _ => q_move hT rfl) ?_; clear hT; intro a hT
      refine d_pure (i := 7) hT #[true, true, true, true, false, false, true, true, false, false, false, false] rfl (by kernel_rfl) rfl rfl (by decide) (fun _ _ _ h => h) (fun _ => (q_addI hT rfl rfl (r := (n : Int) + 1) rfl (by omega) (by omega)).v (v := (vI ((n + 1 : Nat) : Int))) (rfl)) ?_; clear hT; intro a hT
      refine d_take (i := 4) hT #[true, true, true, true, true, false, true, true, false, false, false, false] rfl (by kernel_rfl) rfl rfl (by decide) (fun _ _ _ h => h) (fun _ hs => q_load hT rfl Tryd.ty63 (Rd.ext (hR.rd 0 rfl 99 (ds := [(vp b3 0)]) rfl) hs)) hS ?_; clear hT; intro a hT
      refine d_take (i := 5) hT #[true, true, true, true, true, true, true, true, false, false, false, false] rfl (by kernel_rfl) rfl rfl (by decide) (fun _ _ _ h => h) (fun _ hs => q_load_agg hT rfl Tryd.ty36 (Rd.ext (hR.rd 4 rfl 0 (ds := digC l.p ++ (digC l.v)) rfl) hs) rfl) hS ?_; clear hT; intro a hT
      refine d_one (i := 8) hT #[true, true, true, true, true, true, true, true, true, false, false, false] rfl (by kernel_rfl) rfl ?_
      replace hL : Vg.Loc (keys [(KT.leaf b old).ents 98]) w0 w28 ([[(b3, ob ([(v32 0), (Value.int .i32 0), (v32 0)] ++ (digC Dig.zero ++ (digC old.p ++ (digC old.v ++ ([(Value.pointer none), (Value.pointer none)]))))) 98)], [(b6, ob ([(v32 0), (Value.int .i32 0), (v32 0)] ++ (digC Dig.zero ++ (digC Dig.zero ++ (digC Dig.zero ++ ([(vp b3 0), (Value.pointer none)]))))) 98)], [(b4, ob ([(v32 0), (Value.int .i32 0), (v32 0)] ++ (digC Dig.zero ++ (digC Dig.zero ++ (digC Dig.zero ++ ([(vp b3 0), (Value.pointer none)]))))) 98)], [(b2, ob (digC old.p ++ (digC old.v)) 36)], [(b1, ob (digC l.p ++ (digC l.v)) 36)], [(b, ob ([(v32 0), (Value.int .i32 0), (v32 0)] ++ (digC Dig.zero ++ (digC old.p ++ (digC old.v ++ ([(Value.pointer none), (Value.pointer none)]))))) 98)]]) := hL.front 2 rfl rfl
      refine w_callT (xs := [.tmp 90, .tmp 91, .tmp 93]) hT rfl (vs := [(vp b3 0), (Value.agg (digC l.p ++ (digC l.v)).toArray), (vI ((n + 1 : Nat) : Int))]) rfl (args := #[(vp b3 0), (Value.agg (digC l.p ++ (digC l.v)).toArray), (vI ((n + 1 : Nat) : Int))]) rfl Tryd.func32 rfl rfl (by decide) ((ih (KT.leaf b3 old) l [old] _ (by simp [Rep]) (by have := hg.zeros; simpa [zerosL, *] using this) (Vg.Loc.self (cs := [(KT.leaf b3 old).ents 98]) hL)).mono ?_)
      rintro e w29 ⟨t2, rfl, hX, hrep2⟩
      refine ⟨_, rfl, ?_⟩; clear hT; intro a hT; replace hT : Tm 98 a ((94, (Value.pointer t2.ad)) :: _) := hT
      replace hL : Vg.Loc (keys [(KT.leaf b old).ents 98]) w0 w29 ([t2.ents 98, [(b6, ob ([(v32 0), (Value.int .i32 0), (v32 0)] ++ (digC Dig.zero ++ (digC Dig.zero ++ (digC Dig.zero ++ ([(vp b3 0), (Value.pointer none)]))))) 98)], [(b4, ob ([(v32 0), (Value.int .i32 0), (v32 0)] ++ (digC Dig.zero ++ (digC Dig.zero ++ (digC Dig.zero ++ ([(vp b3 0), (Value.pointer none)]))))) 98)], [(b2, ob (digC old.p ++ (digC old.v)) 36)], [(b1, ob (digC l.p ++ (digC l.v)) 36)], [(b, ob ([(v32 0), (Value.int .i32 0), (v32 0)] ++ (digC Dig.zero ++ (digC old.p ++ (digC old.v ++ ([(Value.pointer none), (Value.pointer none)]))))) 98)]]) := Vg.Loc.call (ci := [[(b3, ob ([(v32 0), (Value.int .i32 0), (v32 0)] ++ (digC Dig.zero ++ (digC old.p ++ (digC old.v ++ ([(Value.pointer none), (Value.pointer none)]))))) 98)]]) (cr := [[(b6, ob ([(v32 0), (Value.int .i32 0), (v32 0)] ++ (digC Dig.zero ++ (digC Dig.zero ++ (digC Dig.zero ++ ([(vp b3 0), (Value.pointer none)]))))) 98)], [(b4, ob ([(v32 0), (Value.int .i32 0), (v32 0)] ++ (digC Dig.zero ++ (digC Dig.zero ++ (digC Dig.zero ++ ([(vp b3 0), (Value.pointer none)]))))) 98)], [(b2, ob (digC old.p ++ (digC old.v)) 36)], [(b1, ob (digC l.p ++ (digC l.v)) 36)], [(b, ob ([(v32 0), (Value.int .i32 0), (v32 0)] ++ (digC Dig.zero ++ (digC old.p ++ (digC old.v ++ ([(Value.pointer none), (Value.pointer none)]))))) 98)]]) hL hX
      refine ⟨fun hn => absurd (by decide) hn, ?_⟩
      refine d_pure (i := 9) hT #[true, true, true, true, true, true, true, true, true, true, false, false] rfl (by kernel_rfl) rfl rfl (by decide) (fun _ _ _ h => h) (fun _ => q_nilCheck hT rfl) ?_; clear hT; intro a hT
      refine d_pure (i := 10) hT #[true, true, true, true, true, true, true, true, true, true, true, false] rfl (by kernel_rfl) rfl rfl (by decide) (fun _ _ _ h => h) (fun _ => q_fieldAddr hT rfl Tryd.fld98_2 rfl) ?_; clear hT; intro a hT
      refine d_one (i := 11) hT #[true, true, true, true, true, true, true, true, true, true, true, true] rfl (by kernel_rfl) rfl ?_
      refine w_store hT hL 1 (c := [(v32 0), (Value.int .i32 0), (v32 0)] ++ (digC Dig.zero ++ (digC Dig.zero ++ (digC Dig.zero ++ ([(vp b3 0), (Value.pointer none)]))))) rfl rfl Tryd.ty63 rfl (vs := [(Value.pointer t2.ad)]) rfl rfl (by first | decide | (simp [arr32_len, arr8_len, digC_len]; done) | (simp [arr32_len, arr8_len, digC_len]; omega)) rfl (c' := [(v32 0), (Value.int .i32 0), (v32 0)] ++ (digC Dig.zero ++ (digC Dig.zero ++ (digC Dig.zero ++ ([(Value.pointer t2.ad), (Value.pointer none)]))))) rfl ?_; clear hL; intro w30 hL hE
      replace hL : Vg.Loc (keys [(KT.leaf b old).ents 98]) w0 w30 ([t2.ents 98, [(b6, ob ([(v32 0), (Value.int .i32 0), (v32 0)] ++ (digC Dig.zero ++ (digC Dig.zero ++ (digC Dig.zero ++ ([(Value.pointer t2.ad), (Value.pointer none)]))))) 98)], [(b4, ob ([(v32 0), (Value.int .i32 0), (v32 0)] ++ (digC Dig.zero ++ (digC Dig.zero ++ (digC Dig.zero ++ ([(vp b3 0), (Value.pointer none)]))))) 98)], [(b2, ob (digC old.p ++ (digC old.v)) 36)], [(b1, ob (digC l.p ++ (digC l.v)) 36)], [(b, ob ([(v32 0), (Value.int .i32 0), (v32 0)] ++ (digC Dig.zero ++ (digC old.p ++ (digC old.v ++ ([(Value.pointer none), (Value.pointer none)]))))) 98)]]) := hL
      refine ⟨fun hn => absurd (by decide) hn, ?_⟩
      refine d_done (by kernel_rfl) ?_; clear hR hS
      refine then_norm ?_
      refine c_seq ?_
      refine c_region ?_
      refine l_q hT (q_move hT rfl) rfl rfl (by decide) ?_; clear hT; intro a hT
      refine l_q hT (q_assign hT rfl) rfl rfl (by decide) ?_; clear hT; intro a hT
      refine l_end ?_
      refine then_norm ?_
      refine wp_ret ?_
      refine c_ret (vs := [(vp b6 0)]) (rs := [.tmp 6]) hT rfl (.tmp rfl .nil) ?_
      replace hL : Vg.Loc (keys [(KT.leaf b old).ents 98]) w0 w30 ([[(b6, ob ([(v32 0), (Value.int .i32 0), (v32 0)] ++ (digC Dig.zero ++ (digC Dig.zero ++ (digC Dig.zero ++ ([(Value.pointer t2.ad), (Value.pointer none)]))))) 98)], t2.ents 98, [(b4, ob ([(v32 0), (Value.int .i32 0), (v32 0)] ++ (digC Dig.zero ++ (digC Dig.zero ++ (digC Dig.zero ++ ([(vp b3 0), (Value.pointer none)]))))) 98)], [(b2, ob (digC old.p ++ (digC old.v)) 36)], [(b1, ob (digC l.p ++ (digC l.v)) 36)], [(b, ob ([(v32 0), (Value.int .i32 0), (v32 0)] ++ (digC Dig.zero ++ (digC old.p ++ (digC old.v ++ ([(Value.pointer none), (Value.pointer none)]))))) 98)]]) := hL.front 1 rfl rfl
      replace hL : Vg.Loc (keys [(KT.leaf b old).ents 98]) w0 w30 ([[(b6, ob ([(v32 0), (Value.int .i32 0), (v32 0)] ++ (digC Dig.zero ++ (digC Dig.zero ++ (digC Dig.zero ++ ([(Value.pointer t2.ad), (Value.pointer none)]))))) 98)], t2.ents 98]) := hL.sub (.cons_cons _ (.cons_cons _ (.cons _ (.cons _ (.cons _ (.cons _ .slnil))))))
      refine ⟨(KT.node b6 t2 KT.nil), rfl, hL.join (by simp [KT.ents, knotC, KT.ad, noLeaf]), ?_⟩
      simp_all [Rep, zerosL, onesL]

set_option maxRecDepth 100000 in
set_option maxHeartbeats 4000000 in
theorem with_node (b : Nat) (x y : KT) (l : Leaf) (S : List Leaf) (n : Nat) (hr : Rep (KT.node b x y) S n) (hg : GoodL (l :: S) n) (ih : WithOK Tryd.prog 32 98 (n + 1)) (w0 : World) (hL0 : Vg.Loc (keys [(KT.node b x y).ents 98]) w0 w0 [(KT.node b x y).ents 98]) :
    Calls Tryd.prog 32 #[(vp b 0), (Value.agg (digC l.p ++ (digC l.v)).toArray), (vI (n : Int))] w0 fun e w' => ∃ t', e = .returned (.pointer t'.ad) ∧ Vg.Loc (keys [(KT.node b x y).ents 98]) w0 w' [t'.ents 98] ∧ Rep t' (l :: S) n := by
  refine c_enter (n := 98) (args := [(vp b 0), (Value.agg (digC l.p ++ (digC l.v)).toArray), (vI (n : Int))]) Tryd.func32 rfl rfl (Nat.le_of_ble_eq_true rfl) rfl (fun a hT => ?_)
  simp only [List.zipIdx_cons, List.zipIdx_nil, List.map_cons, List.map_nil, Nat.reduceAdd] at hT
  have hL : Vg.Loc (keys [(KT.node b x y).ents 98]) w0 w0 [[(b, ob ([(v32 0), (Value.int .i32 0), (v32 0)] ++ (digC Dig.zero ++ (digC Dig.zero ++ (digC Dig.zero ++ ([(Value.pointer x.ad), (Value.pointer y.ad)]))))) 98)], x.ents 98, y.ents 98] := hL0.regroup (by simp only [List.flatten_cons, List.flatten_nil, List.append_nil, List.cons_append, List.nil_append]; rfl)
  have hsome := hr.some
  obtain ⟨h2, hx, hy⟩ := hr
  have hn : n < 256 := (hg.sub (List.sublist_cons_self _ _)).lt h2
  refine c_seq ?_
  refine c_region ?_
  refine l_do rfl ?_
  refine w_box hT hL (by decide) rfl (c := digC l.p ++ (digC l.v)) rfl ?_; clear hT hL; intro b1 a w1 hT hL hE hB
  refine l_q hT (q_assign hT rfl) rfl rfl (by decide) ?_; clear hT; intro a hT
  refine l_end ?_
  refine then_norm ?_
  refine c_seq ?_
  refine wp_block ?_
  refine c_seq ?_
  refine d_start' hL #[false, false, false, false, false, false, false, false, false, false, false, false, false, false, false, false, false, false] [] rfl rfl rfl ?_; clear hL; intro w2 hL hE; have hR := hL; have hS := Ext.refl w2
  refine d_pure (i := 0) hT #[true, false, false, false, false, false, false, false, false, false, false, false, false, false, false, false, false, false] rfl (by kernel_rfl) rfl rfl (by decide) (fun _ _ _ h => h) (fun _ => q_move hT rfl) ?_; clear hT; intro a hT
  refine d_pure (i := 1) hT #[true, true, false, false, false, false, false, false, false, false, false, false, false, false, false, false, false, false] rfl (by kernel_rfl) rfl rfl (by decide) (fun _ _ _ h => h) (fun _ => (q_eq_nil hT rfl rfl Tryd.underlying63).b (b := false) rfl) ?_; clear hT; intro a hT
  refine d_pure (i := 2) hT #[true, true, true, false, false, false, false, false, false, false, false, false, false, false, false, false, false, false] rfl (by kernel_rfl) rfl rfl (by decide) (fun _ _ _ h => h) (fun _ => q_move hT rfl) ?_; clear hT; intro a hT
  refine d_pure (i := 3) hT #[true, true, true, true, false, false, false, false, false, false, false, false, false, false, false, false, false, false] rfl (by kernel_rfl) rfl rfl (by decide) (fun _ _ _ h => h) (fun _ => q_move hT rfl) ?_; clear hT; intro a hT
  refine d_one (i := 4) hT #[true, true, true, true, true, false, false, false, false, false, false, false, false, false, false, false, false, false] rfl (by kernel_rfl) rfl ?_
  refine w_callT (xs := [.tmp 13]) hT rfl (vs := [(vp b 0)]) rfl (args := #[(vp b 0)]) rfl Tryd.func45 rfl rfl (by decide) ((inner_some b x.ad y.ad _ (hL.rd 1 rfl 99 rfl)).mono ?_)
  rintro e w3 ⟨rfl, hX⟩
  refine ⟨_, rfl, ?_⟩; clear hT; intro a hT; replace hT : Tm 98 a ((14, (Value.bool (x.ad.isSome || y.ad.isSome))) :: _) := hT
  replace hL := hL.ext hX
  rw [hsome] at hT
  replace hS := Vg.Loc.ext hS hX; refine ⟨fun _ => hS, ?_⟩
  refine d_pure (i := 5) hT #[true, true, true, true, true, true, false, false, false, false, false, false, false, false, false, false, false, false] rfl (by kernel_rfl) rfl rfl (by decide) (fun _ _ _ h => h) (fun _ => (q_not hT rfl).b rfl) ?_; clear hT; intro a hT
  refine d_pure (i := 6) hT #[true, true, true, true, true, true, true, false, false, false, false, false, false, false, false, false, false, false] rfl (by kernel_rfl) rfl rfl (by decide) (fun _ _ _ h => h) (fun _ => q_move hT rfl) ?_; clear hT; intro a hT
  refine d_off (i := 7) hT #[true, true, true, true, true, true, true, true, false, false, false, false, false, false, false, false, false, false] rfl (by kernel_rfl) rfl rfl (by decide) (fun _ _ _ h => h) ?_; clear hT; intro a hT
  refine d_off (i := 8) hT #[true, true, true, true, true, true, true, true, true, false, false, false, false, false, false, false, false, false] rfl (by kernel_rfl) rfl rfl (by decide) (fun _ _ _ h => h) ?_; clear hT; intro a hT
  refine d_off (i := 9) hT #[true, true, true, true, true, true, true, true, true, true, false, false, false, false, false, false, false, false] rfl (by kernel_rfl) rfl rfl (by decide) (fun _ _ _ h => h) ?_; clear hT; intro a hT
  refine d_off (i := 10) hT #[true, true, true, true, true, true, true, true, true, true, true, false, false, false, false, false, false, false] rfl (by kernel_rfl) rfl rfl (by decide) (fun _ _ _ h => h) ?_; clear hT; intro a hT
  refine d_off (i := 11) hT #[true, true, true, true, true, true, true, true, true, true, true, true, false, false, false, false, false, false] rfl (by kernel_rfl) rfl rfl (by decide) (fun _ _ _ h => h) ?_; clear hT; intro a hT
  refine d_off (i := 12) hT #[true, true, true, true, true, true, true, true, true, true, true, true, true, false, false, false, false, false] rfl (by kernel_rfl) rfl rfl (by decide) (fun _ _ _ h => h) ?_; clear hT; intro a hT
  refine d_off (i := 13) hT #[true, true, true, true, true, true, true, true, true, true, true, true, true, true, false, false, false, false] rfl (by kernel_rfl) rfl rfl (by decide) (fun _ _ _ h => h) ?_; clear hT; intro a hT
  refine d_off (i := 14) hT #[true, true, true, true, true, true, true, true, true, true, true, true, true, true, true, false, false, false] rfl (by kernel_rfl) rfl rfl (by decide) (fun _ _ _ h => h) ?_; clear hT; intro a hT
  refine d_pure (i := 15) hT #[true, true, true, true, true, true, true, true, true, true, true, true, true, true, true, true, false, false] rfl (by kernel_rfl) rfl rfl (by decide) (fun _ _ _ h => h) (fun _ => (q_pick hT rfl rfl rfl).v (v := (Value.bool false)) rfl) ?_; clear hT; intro a hT
  refine d_pure (i := 16) hT #[true, true, true, true, true, true, true, true, true, true, true, true, true, true, true, true, true, false] rfl (by kernel_rfl) rfl rfl (by decide) (fun _ _ _ h => h) (fun _ => (q_pick hT rfl rfl rfl).v (v := (Value.bool false)) rfl) ?_; clear hT; intro a hT
  refine d_pure (i := 17) hT #[true, true, true, true, true, true, true, true, true, true, true, true, true, true, true, true, true, true] rfl (by kernel_rfl) rfl rfl (by decide) (fun _ _ _ h => h) (fun _ => q_assign hT rfl) ?_; clear hT; intro a hT
  refine d_done (by kernel_rfl) ?_; clear hR hS
  refine then_norm ?_
  refine c_false hT rfl rfl ?_
  refine c_seq ?_
  refine c_region ?_
  refine l_q hT (q_move hT rfl) rfl rfl (by decide) ?_; clear hT; intro a hT
  refine l_do rfl ?_
  refine w_callT (xs := [.tmp 31]) hT rfl (vs := [(vp b 0)]) rfl (args := #[(vp b 0)]) rfl Tryd.func45 rfl rfl (by decide) ((inner_some b x.ad y.ad _ (hL.rd 1 rfl 99 rfl)).mono ?_)
  rintro e w4 ⟨rfl, hX⟩
  refine ⟨_, rfl, ?_⟩; clear hT; intro a hT; replace hT : Tm 98 a ((32, (Value.bool (x.ad.isSome || y.ad.isSome))) :: _) := hT
  replace hL := hL.ext hX
  rw [hsome] at hT
  refine l_q hT ((q_not hT rfl).b rfl) rfl rfl (by decide) ?_; clear hT; intro a hT
  refine l_q hT (q_assign hT rfl) rfl rfl (by decide) ?_; clear hT; intro a hT
  refine l_end ?_
  refine then_norm ?_
  refine c_false hT rfl rfl ?_
  refine wp_skip ?_
  refine blk_norm ?_
  refine then_norm ?_
  refine c_seq ?_
  refine d_start' hL #[false, false, false, false, false, false, false, false, false, false, false] [] rfl rfl rfl ?_; clear hL; intro w5 hL hE; have hR := hL; have hS := Ext.refl w5
  refine d_pure (i := 0) hT #[true, false, false, false, false, false, false, false, false, false, false] rfl (by kernel_rfl) rfl rfl (by decide) (fun _ _ _ h => h) (fun _ => q_move hT rfl) ?_; clear hT; intro a hT
  refine d_pure (i := 1) hT #[true, true, false, false, false, false, false, false, false, false, false] rfl (by kernel_rfl) rfl rfl (by decide) (fun _ _ _ h => h) (fun _ => q_nilCheck hT rfl) ?_; clear hT; intro a hT
  refine d_pure (i := 2) hT #[true, true, true, false, false, false, false, false, false, false, false] rfl (by kernel_rfl) rfl rfl (by decide) (fun _ _ _ h => h) (fun _ => q_fieldAddr hT rfl Tryd.fld98_2 rfl) ?_; clear hT; intro a hT
  refine d_pure (i := 4) hT #[true, true, true, false, true, false, false, false, false, false, false] rfl (by kernel_rfl) rfl rfl (by decide) (fun _ _ _ h => h) (fun _ => q_move hT rfl) ?_; clear hT; intro a hT
  refine d_pure (i := 5) hT #[true, true, true, false, true, true, false, false, false, false, false] rfl (by kernel_rfl) rfl rfl (by decide) (fun _ _ _ h => h) (fun _ => q_nilCheck hT rfl) ?_; clear hT; intro a hT
  refine d_pure (i := 6) hT #[true, true, true, false, true, true, true, false, false, false, false] rfl (by kernel_rfl) rfl rfl (by decide) (fun _ _ _ h => h) (fun _ => q_fieldAddr hT rfl Tryd.fld98_3 rfl) ?_; clear hT; intro a hT
  refine d_take (i := 3) hT #[true, true, true, true, true, true, true, false, false, false, false] rfl (by kernel_rfl) rfl rfl (by decide) (fun _ _ _ h => h) (fun _ hs => q_load hT rfl Tryd.ty63 (Rd.ext (hR.rd 1 rfl 99 (ds := [(Value.pointer x.ad)]) rfl) hs)) hS ?_; clear hT; intro a hT
  refine d_take (i := 7) hT #[true, true, true, true, true, true, true, true, false, false, false] rfl (by kernel_rfl) rfl rfl (by decide) (fun _ _ _ h => h) (fun _ hs => q_load hT rfl Tryd.ty63 (Rd.ext (hR.rd 1 rfl 100 (ds := [(Value.pointer y.ad)]) rfl) hs)) hS ?_; clear hT; intro a hT
  refine d_pure (i := 8) hT #[true, true, true, true, true, true, true, true, true, false, false] rfl (by kernel_rfl) rfl rfl (by decide) (fun _ _ _ h => h) (fun _ => q_build (ps := [(2, .tmp 64), (3, .tmp 68)]) (pv := [(2, (Value.pointer x.ad)), (3, (Value.pointer y.ad))]) (v := .agg ([(v32 0), (Value.int .i32 0), (v32 0)] ++ (digC Dig.zero ++ (digC Dig.zero ++ (digC Dig.zero ++ ([(Value.pointer x.ad), (Value.pointer y.ad)]))))).toArray) hT rfl (fun _ => by kernel_rfl)) ?_; clear hT; intro a hT
  refine d_one (i := 9) hT #[true, true, true, true, true, true, true, true, true, true, false] rfl (by kernel_rfl) rfl ?_
  refine w_box hT hL (by decide) rfl (c := [(v32 0), (Value.int .i32 0), (v32 0)] ++ (digC Dig.zero ++ (digC Dig.zero ++ (digC Dig.zero ++ ([(Value.pointer x.ad), (Value.pointer y.ad)]))))) rfl ?_; clear hT hL; intro b2 a w6 hT hL hE hB
  replace hS := Vg.Loc.ext hS hE; refine ⟨fun _ => hS, ?_⟩
  refine d_pure (i := 10) hT #[true, true, true, true, true, true, true, true, true, true, true] rfl (by kernel_rfl) rfl rfl (by decide) (fun _ _ _ h => h) (fun _ => q_assign hT rfl) ?_; clear hT; intro a hT
  refine d_done (by kernel_rfl) ?_; clear hR hS
  refine then_norm ?_
  refine c_seq ?_
  refine c_seq ?_
  refine c_region ?_
  refine l_q hT (q_fieldAddr hT rfl Tryd.fld36_0 rfl) rfl rfl (by decide) ?_; clear hT; intro a hT
  refine l_q hT (q_load_agg hT rfl Tryd.ty24 (hL.rd 1 rfl 0 (ds := digC l.p) rfl) rfl) rfl rfl (by decide) ?_; clear hT; intro a hT
  refine l_q hT (q_move hT rfl) rfl rfl (by decide) ?_; clear hT; intro a hT
  refine l_do rfl ?_
  refine w_callT (xs := [.tmp 72, .tmp 73]) hT rfl (vs := [(Value.agg (digC l.p).toArray), (vI (n : Int))]) rfl (args := #[(Value.agg (digC l.p).toArray), (vI (n : Int))]) rfl Tryd.func46 rfl rfl (by decide) ((sright_spec l.p n (by omega) _).mono ?_)
  rintro e w7 ⟨rfl, hX⟩
  refine ⟨_, rfl, ?_⟩; clear hT; intro a hT; replace hT : Tm 98 a ((74, (Value.bool (l.p.bit n))) :: _) := hT
  replace hL := hL.ext hX
  refine l_end ?_
  refine then_norm ?_
  refine c_if hT rfl (fun hc1 => ?_) (fun hc1 => ?_)
  · skip
    refine d_start' hL #[false, false, false, false, false, false, false, false, false, false, false, false] [8, 11] rfl rfl rfl ?_; clear hL; intro w8 hL hE; have hR := hL; have hS := Ext.refl w8
    refine d_pure (i := 0) hT #[true, false, false, false, false, false, false, false, false, false, false, false] rfl (by kernel_rfl) rfl rfl (by decide) (fun _ _ _ h => h) (fun _ => q_move hT rfl) ?_; clear hT; intro a hT
    refine d_pure (i := 1) hT #[true, true, false, false, false, false, false, false, false, false, false, false] rfl (by kernel_rfl) rfl rfl (by decide) (fun _ _ _ h => h) (fun _ => q_move hT rfl) ?_; clear hT; intro a hT
    refine d_pure (i := 2) hT #[true, true, true, false, false, false, false, false, false, false, false, false] rfl (by kernel_rfl) rfl rfl (by decide) (fun _ _ _ h => h) (fun _ => q_nilCheck hT rfl) ?_; clear hT; intro a hT
    refine d_pure (i := 3) hT #[true, true, true, true, false, false, false, false, false, false, false, false] rfl (by kernel_rfl) rfl rfl (by decide) (fun _ _ _ h => h) (fun _ => q_fieldAddr hT rfl Tryd.fld98_3 rfl) ?_; clear hT; intro a hT
    refine d_pure (i := 6) hT #[true, true, true, true, false, false, true, false, false, false, false, false] rfl (by kernel_rfl) rfl rfl (by decide) (fun _ _ _ h => h) (fun _ => q_move hT rfl) ?_; clear hT; intro a hT
    refine d_pure (i := 7) hT #[true, true, true, true, false, false, true, true, false, false, false, false] rfl (by kernel_rfl) rfl rfl (by decide) (fun _ _ _ h => h) (fun _ => (q_addI hT rfl rfl (r := (n : Int) + 1) rfl (by omega) (by omega)).v (v := (vI ((n + 1 : Nat) : Int))) (rfl)) ?_; clear hT; intro a hT
    refine d_take (i := 4) hT #[true, true, true, true, true, false, true, true, false, false, false, false] rfl (by kernel_rfl) rfl rfl (by decide) (fun _ _ _ h => h) (fun _ hs => q_load hT rfl Tryd.ty63 (Rd.ext (hR.rd 0 rfl 100 (ds := [(Value.pointer y.ad)]) rfl) hs)) hS ?_; clear hT; intro a hT
    refine d_take (i := 5) hT #[true, true, true, true, true, true, true, true, false, false, false, false] rfl (by kernel_rfl) rfl rfl (by decide) (fun _ _ _ h => h) (fun _ hs => q_load_agg hT rfl Tryd.ty36 (Rd.ext (hR.rd 1 rfl 0 (ds := digC l.p ++ (digC l.v)) rfl) hs) rfl) hS ?_; clear hT; intro a hT
    refine d_one (i := 8) hT #[true, true, true, true, true, true, true, true, true, false, false, false] rfl (by kernel_rfl) rfl ?_
    replace hL : Vg.Loc (keys [(KT.node b x y).ents 98]) w0 w8 ([y.ents 98, [(b2, ob ([(v32 0), (Value.int .i32 0), (v32 0)] ++ (digC Dig.zero ++ (digC Dig.zero ++ (digC Dig.zero ++ ([(Value.pointer x.ad), (Value.pointer y.ad)]))))) 98)], [(b1, ob (digC l.p ++ (digC l.v)) 36)], [(b, ob ([(v32 0), (Value.int .i32 0), (v32 0)] ++ (digC Dig.zero ++ (digC Dig.zero ++ (digC Dig.zero ++ ([(Value.pointer x.ad), (Value.pointer y.ad)]))))) 98)], x.ents 98]) := hL.front 4 rfl rfl
    refine w_callT (xs := [.tmp 79, .tmp 80, .tmp 82]) hT rfl (vs := [(Value.pointer y.ad), (Value.agg (digC l.p ++ (digC l.v)).toArray), (vI ((n + 1 : Nat) : Int))]) rfl (args := #[(Value.pointer y.ad), (Value.agg (digC l.p ++ (digC l.v)).toArray), (vI ((n + 1 : Nat) : Int))]) rfl Tryd.func32 rfl rfl (by decide) ((ih y l (onesL S n) _ hy (hg.ones_cons hc1) (Vg.Loc.self (cs := [y.ents 98]) hL)).mono ?_)
    rintro e w9 ⟨t1, rfl, hX, hrep1⟩
    refine ⟨_, rfl, ?_⟩; clear hT; intro a hT; replace hT : Tm 98 a ((83, (Value.pointer t1.ad)) :: _) := hT
    replace hL : Vg.Loc (keys [(KT.node b x y).ents 98]) w0 w9 ([t1.ents 98, [(b2, ob ([(v32 0), (Value.int .i32 0), (v32 0)] ++ (digC Dig.zero ++ (digC Dig.zero ++ (digC Dig.zero ++ ([(Value.pointer x.ad), (Value.pointer y.ad)]))))) 98)], [(b1, ob (digC l.p ++ (digC l.v)) 36)], [(b, ob ([(v32 0), (Value.int .i32 0), (v32 0)] ++ (digC Dig.zero ++ (digC Dig.zero ++ (digC Dig.zero ++ ([(Value.pointer x.ad), (Value.pointer y.ad)]))))) 98)], x.ents 98]) := Vg.Loc.call (ci := [y.ents 98]) (cr := [[(b2, ob ([(v32 0), (Value.int .i32 0), (v32 0)] ++ (digC Dig.zero ++ (digC Dig.zero ++ (digC Dig.zero ++ ([(Value.pointer x.ad), (Value.pointer y.ad)]))))) 98)], [(b1, ob (digC l.p ++ (digC l.v)) 36)], [(b, ob ([(v32 0), (Value.int .i32 0), (v32 0)] ++ (digC Dig.zero ++ (digC Dig.zero ++ (digC Dig.zero ++ ([(Value.pointer x.ad), (Value.pointer y.ad)]))))) 98)], x.ents 98]) hL hX
    refine ⟨fun hn => absurd (by decide) hn, ?_⟩
    refine d_pure (i := 9) hT #[true, true, true, true, true, true, true, true, true, true, false, false] rfl (by kernel_rfl) rfl rfl (by decide) (fun _ _ _ h => h) (fun _ => q_nilCheck hT rfl) ?_; clear hT; intro a hT
    refine d_pure (i := 10) hT #[true, true, true, true, true, true, true, true, true, true, true, false] rfl (by kernel_rfl) rfl rfl (by decide) (fun _ _ _ h => h) (fun _ => q_fieldAddr hT rfl Tryd.fld98_3 rfl) ?_; clear hT; intro a hT
    refine d_one (i := 11) hT #[true, true, true, true, true, true, true, true, true, true, true, true] rfl (by kernel_rfl) rfl ?_
    refine w_store hT hL 1 (c := [(v32 0), (Value.int .i32 0), (v32 0)] ++ (digC Dig.zero ++ (digC Dig.zero ++ (digC Dig.zero ++ ([(Value.pointer x.ad), (Value.pointer y.ad)]))))) rfl rfl Tryd.ty63 rfl (vs := [(Value.pointer t1.ad)]) rfl rfl (by first | decide | (simp [arr32_len, arr8_len, digC_len]; done) | (simp [arr32_len, arr8_len, digC_len]; omega)) rfl (c' := [(v32 0), (Value.int .i32 0), (v32 0)] ++ (digC Dig.zero ++ (digC Dig.zero ++ (digC Dig.zero ++ ([(Value.pointer x.ad), (Value.pointer t1.ad)]))))) rfl ?_; clear hL; intro w10 hL hE
    replace hL : Vg.Loc (keys [(KT.node b x y).ents 98]) w0 w10 ([t1.ents 98, [(b2, ob ([(v32 0), (Value.int .i32 0), (v32 0)] ++ (digC Dig.zero ++ (digC Dig.zero ++ (digC Dig.zero ++ ([(Value.pointer x.ad), (Value.pointer t1.ad)]))))) 98)], [(b1, ob (digC l.p ++ (digC l.v)) 36)], [(b, ob ([(v32 0), (Value.int .i32 0), (v32 0)] ++ (digC Dig.zero ++ (digC Dig.zero ++ (digC Dig.zero ++ ([(Value.pointer x.ad), (Value.pointer y.ad)]))))) 98)], x.ents 98]) := hL
    refine ⟨fun hn => absurd (by decide) hn, ?_⟩
    refine d_done (by kernel_rfl) ?_; clear hR hS
    refine then_norm ?_
    refine c_seq ?_
    refine c_region ?_
    refine l_q hT (q_move hT rfl) rfl rfl (by decide) ?_; clear hT; intro a hT
    refine l_q hT (q_assign hT rfl) rfl rfl (by decide) ?_; clear hT; intro a hT
    refine l_end ?_
    refine then_norm ?_
    refine wp_ret ?_
    refine c_ret (vs := [(vp b2 0)]) (rs := [.tmp 6]) hT rfl (.tmp rfl .nil) ?_
    replace hL : Vg.Loc (keys [(KT.node b x y).ents 98]) w0 w10 ([x.ents 98, t1.ents 98, [(b2, ob ([(v32 0), (Value.int .i32 0), (v32 0)] ++ (digC Dig.zero ++ (digC Dig.zero ++ (digC Dig.zero ++ ([(Value.pointer x.ad), (Value.pointer t1.ad)]))))) 98)], [(b1, ob (digC l.p ++ (digC l.v)) 36)], [(b, ob ([(v32 0), (Value.int .i32 0), (v32 0)] ++ (digC Dig.zero ++ (digC Dig.zero ++ (digC Dig.zero ++ ([(Value.pointer x.ad), (Value.pointer y.ad)]))))) 98)]]) := hL.front 4 rfl rfl
    replace hL : Vg.Loc (keys [(KT.node b x y).ents 98]) w0 w10 ([[(b2, ob ([(v32 0), (Value.int .i32 0), (v32 0)] ++ (digC Dig.zero ++ (digC Dig.zero ++ (digC Dig.zero ++ ([(Value.pointer x.ad), (Value.pointer t1.ad)]))))) 98)], x.ents 98, t1.ents 98, [(b1, ob (digC l.p ++ (digC l.v)) 36)], [(b, ob ([(v32 0), (Value.int .i32 0), (v32 0)] ++ (digC Dig.zero ++ (digC Dig.zero ++ (digC Dig.zero ++ ([(Value.pointer x.ad), (Value.pointer y.ad)]))))) 98)]]) := hL.front 2 rfl rfl
    replace hL : Vg.Loc (keys [(KT.node b x y).ents 98]) w0 w10 ([[(b2, ob ([(v32 0), (Value.int .i32 0), (v32 0)] ++ (digC Dig.zero ++ (digC Dig.zero ++ (digC Dig.zero ++ ([(Value.pointer x.ad), (Value.pointer t1.ad)]))))) 98)], x.ents 98, t1.ents 98]) := hL.sub (.cons_cons _ (.cons_cons _ (.cons_cons _ (.cons _ (.cons _ .slnil)))))
    refine ⟨(KT.node b2 x t1), rfl, hL.join (by simp [KT.ents, knotC, KT.ad, noLeaf]), ?_⟩
    simp_all [Rep, zerosL, onesL] <;> omega
  · skip
    refine d_start' hL #[false, false, false, false, false, false, false, false, false, false, false, false] [8, 11] rfl rfl rfl ?_; clear hL; intro w11 hL hE; have hR := hL; have hS := Ext.refl w11
    refine d_pure (i := 0) hT #[true, false, false, false, false, false, false, false, false, false, false, false] rfl (by kernel_rfl) rfl rfl (by decide) (fun _ _ _ h => h) (fun _ => q_move hT rfl) ?_; clear hT; intro a hT
    refine d_pure (i := 1) hT #[true, true, false, false, false, false, false, false, false, false, false, false] rfl (by kernel_rfl) rfl rfl (by decide) (fun _ _ _ h => h) (fun _ => q_move hT rfl) ?_; clear hT; intro a hT
    refine d_pure (i := 2) hT #[true, true, true, false, false, false, false, false, false, false, false, false] rfl (by kernel_rfl) rfl rfl (by decide) (fun _ _ _ h => h) (fun _ => q_nilCheck hT rfl) ?_; clear hT; intro a hT
    refine d_pure (i := 3) hT #[true, true, true, true, false, false, false, false, false, false, false, false] rfl (by kernel_rfl) rfl rfl (by decide) (fun _ _ _ h => h) (fun _ => q_fieldAddr hT rfl Tryd.fld98_2 rfl) ?_; clear hT; intro a hT
    refine d_pure (i := 6) hT #[true, true, true, true, false, false, true, false, false, false, false, false] rfl (by kernel_rfl) rfl rfl (by decide) (fun _ _ _ h => h) (fun _ => q_move hT rfl) ?_; clear hT; intro a hT
    refine d_pure (i := 7) hT #[true, true, true, true, false, false, true, true, false, false, false, false] rfl (by kernel_rfl) rfl rfl (by decide) (fun _ _ _ h => h) (fun _ => (q_addI hT rfl rfl (r := (n : Int) + 1) rfl (by omega) (by omega)).v (v := (vI ((n + 1 : Nat) : Int))) (rfl)) ?_; clear hT; intro a hT
    refine d_take (i := 4) hT #[true, true, true, true, true, false, true, true, false, false, false, false] rfl (by kernel_rfl) rfl rfl (by decide) (fun _ _ _ h => h) (fun _ hs => q_load hT rfl Tryd.ty63 (Rd.ext (hR.rd 0 rfl 99 (ds := [(Value.pointer x.ad)]) rfl) hs)) hS ?_; clear hT; intro a hT
    refine d_take (i := 5) hT #[true, true, true, true, true, true, true, true, false, false, false, false] rfl (by kernel_rfl) rfl rfl (by decide) (fun _ _ _ h => h) (fun _ hs => q_load_agg hT rfl Tryd.ty36 (Rd.ext (hR.rd 1 rfl 0 (ds := digC l.p ++ (digC l.v)) rfl) hs) rfl) hS ?_; clear hT; intro a hT
    refine d_one (i := 8) hT #[true, true, true, true, true, true, true, true, true, false, false, false] rfl (by kernel_rfl) rfl ?_
    replace hL : Vg.Loc (keys [(KT.node b x y).ents 98]) w0 w11 ([x.ents 98, [(b2, ob ([(v32 0), (Value.int .i32 0), (v32 0)] ++ (digC Dig.zero ++ (digC Dig.zero ++ (digC Dig.zero ++ ([(Value.pointer x.ad), (Value.pointer y.ad)]))))) 98)], [(b1, ob (digC l.p ++ (digC l.v)) 36)], [(b, ob ([(v32 0), (Value.int .i32 0), (v32 0)] ++ (digC Dig.zero ++ (digC Dig.zero ++ (digC Dig.zero ++ ([(Value.pointer x.ad), (Value.pointer y.ad)]))))) 98)], y.ents 98]) := hL.front 3 rfl rfl
    refine w_callT (xs := [.tmp 90, .tmp 91, .tmp 93]) hT rfl (vs := [(Value.pointer x.ad), (Value.agg (digC l.p ++ (digC l.v)).toArray), (vI ((n + 1 : Nat) : Int))]) rfl (args := #[(Value.pointer x.ad), (Value.agg (digC l.p ++ (digC l.v)).toArray), (vI ((n + 1 : Nat) : Int))]) rfl Tryd.func32 rfl rfl (by decide) ((ih x l (zerosL S n) _ hx (hg.zeros_cons hc1) (Vg.Loc.self (cs := [x.ents 98]) hL)).mono ?_)
    rintro e w12 ⟨t2, rfl, hX, hrep2⟩
    refine ⟨_, rfl, ?_⟩; clear hT; intro a hT; replace hT : Tm 98 a ((94, (Value.pointer t2.ad)) :: _) := hT
    replace hL : Vg.Loc (keys [(KT.node b x y).ents 98]) w0 w12 ([t2.ents 98, [(b2, ob ([(v32 0), (Value.int .i32 0), (v32 0)] ++ (digC Dig.zero ++ (digC Dig.zero ++ (digC Dig.zero ++ ([(Value.pointer x.ad), (Value.pointer y.ad)]))))) 98)], [(b1, ob (digC l.p ++ (digC l.v)) 36)], [(b, ob ([(v32 0), (Value.int .i32 0), (v32 0)] ++ (digC Dig.zero ++ (digC Dig.zero ++ (digC Dig.zero ++ ([(Value.pointer x.ad), (Value.pointer y.ad)]))))) 98)], y.ents 98]) := Vg.Loc.call (ci := [x.ents 98]) (cr := [[(b2, ob ([(v32 0), (Value.int .i32 0), (v32 0)] ++ (digC Dig.zero ++ (digC Dig.zero ++ (digC Dig.zero ++ ([(Value.pointer x.ad), (Value.pointer y.ad)]))))) 98)], [(b1, ob (digC l.p ++ (digC l.v)) 36)], [(b, ob ([(v32 0), (Value.int .i32 0), (v32 0)] ++ (digC Dig.zero ++ (digC Dig.zero ++ (digC Dig.zero ++ ([(Value.pointer x.ad), (Value.pointer y.ad)]))))) 98)], y.ents 98]) hL hX
    refine ⟨fun hn => absurd (by decide) hn, ?_⟩
    refine d_pure (i := 9) hT #[true, true, true, true, true, true, true, true, true, true, false, false] rfl (by kernel_rfl) rfl rfl (by decide) (fun _ _ _ h => h) (fun _ => q_nilCheck hT rfl) ?_; clear hT; intro a hT
    refine d_pure (i := 10) hT #[true, true, true, true, true, true, true, true, true, true, true, false] rfl (by kernel_rfl) rfl rfl (by decide) (fun _ _ _ h => h) (fun _ => q_fieldAddr hT rfl Tryd.fld98_2 rfl) ?_; clear hT; intro a hT
    refine d_one (i := 11) hT #[true, true, true, true, true, true, true, true, true, true, true, true] rfl (by kernel_rfl) rfl ?_
    refine w_store hT hL 1 (c := [(v32 0), (Value.int .i32 0), (v32 0)] ++ (digC Dig.zero ++ (digC Dig.zero ++ (digC Dig.zero ++ ([(Value.pointer x.ad), (Value.pointer y.ad)]))))) rfl rfl Tryd.ty63 rfl (vs := [(Value.pointer t2.ad)]) rfl rfl (by first | decide | (simp [arr32_len, arr8_len, digC_len]; done) | (simp [arr32_len, arr8_len, digC_len]; omega)) rfl (c' := [(v32 0), (Value.int .i32 0), (v32 0)] ++ (digC Dig.zero ++ (digC Dig.zero ++ (digC Dig.zero ++ ([(Value.pointer t2.ad), (Value.pointer y.ad)]))))) rfl ?_; clear hL; intro w13 hL hE
    replace hL : Vg.Loc (keys [(KT.node b x y).ents 98]) w0 w13 ([t2.ents 98, [(b2, ob ([(v32 0), (Value.int .i32 0), (v32 0)] ++ (digC Dig.zero ++ (digC Dig.zero ++ (digC Dig.zero ++ ([(Value.pointer t2.ad), (Value.pointer y.ad)]))))) 98)], [(b1, ob (digC l.p ++ (digC l.v)) 36)], [(b, ob ([(v32 0), (Value.int .i32 0), (v32 0)] ++ (digC Dig.zero ++ (digC Dig.zero ++ (digC Dig.zero ++ ([(Value.pointer x.ad), (Value.pointer y.ad)]))))) 98)], y.ents 98]) := hL
    refine ⟨fun hn => absurd (by decide) hn, ?_⟩
    refine d_done (by kernel_rfl) ?_; clear hR hS
    refine then_norm ?_
    refine c_seq ?_
    refine c_region ?_
    refine l_q hT (q_move hT rfl) rfl rfl (by decide) ?_; clear hT; intro a hT
    refine l_q hT (q_assign hT rfl) rfl rfl (by decide) ?_; clear hT; intro a hT
    refine l_end ?_
    refine then_norm ?_
    refine wp_ret ?_
    refine c_ret (vs := [(vp b2 0)]) (rs := [.tmp 6]) hT rfl (.tmp rfl .nil) ?_
    replace hL : Vg.Loc (keys [(KT.node b x y).ents 98]) w0 w13 ([y.ents 98, t2.ents 98, [(b2, ob ([(v32 0), (Value.int .i32 0), (v32 0)] ++ (digC Dig.zero ++ (digC Dig.zero ++ (digC Dig.zero ++ ([(Value.pointer t2.ad), (Value.pointer y.ad)]))))) 98)], [(b1, ob (digC l.p ++ (digC l.v)) 36)], [(b, ob ([(v32 0), (Value.int .i32 0), (v32 0)] ++ (digC Dig.zero ++ (digC Dig.zero ++ (digC Dig.zero ++ ([(Value.pointer x.ad), (Value.pointer y.ad)]))))) 98)]]) := hL.front 4 rfl rfl
    replace hL : Vg.Loc (keys [(KT.node b x y).ents 98]) w0 w13 ([t2.ents 98, y.ents 98, [(b2, ob ([(v32 0), (Value.int .i32 0), (v32 0)] ++ (digC Dig.zero ++ (digC Dig.zero ++ (digC Dig.zero ++ ([(Value.pointer t2.ad), (Value.pointer y.ad)]))))) 98)], [(b1, ob (digC l.p ++ (digC l.v)) 36)], [(b, ob ([(v32 0), (Value.int .i32 0), (v32 0)] ++ (digC Dig.zero ++ (digC Dig.zero ++ (digC Dig.zero ++ ([(Value.pointer x.ad), (Value.pointer y.ad)]))))) 98)]]) := hL.front 1 rfl rfl
    replace hL : Vg.Loc (keys [(KT.node b x y).ents 98]) w0 w13 ([[(b2, ob ([(v32 0), (Value.int .i32 0), (v32 0)] ++ (digC Dig.zero ++ (digC Dig.zero ++ (digC Dig.zero ++ ([(Value.pointer t2.ad), (Value.pointer y.ad)]))))) 98)], t2.ents 98, y.ents 98, [(b1, ob (digC l.p ++ (digC l.v)) 36)], [(b, ob ([(v32 0), (Value.int .i32 0), (v32 0)] ++ (digC Dig.zero ++ (digC Dig.zero ++ (digC Dig.zero ++ ([(Value.pointer x.ad), (Value.pointer y.ad)]))))) 98)]]) := hL.front 2 rfl rfl
    replace hL : Vg.Loc (keys [(KT.node b x y).ents 98]) w0 w13 ([[(b2, ob ([(v32 0), (Value.int .i32 0), (v32 0)] ++ (digC Dig.zero ++ (digC Dig.zero ++ (digC Dig.zero ++ ([(Value.pointer t2.ad), (Value.pointer y.ad)]))))) 98)], t2.ents 98, y.ents 98]) := hL.sub (.cons_cons _ (.cons_cons _ (.cons_cons _ (.cons _ (.cons _ .slnil)))))
    refine ⟨(KT.node b2 t2 y), rfl, hL.join (by simp [KT.ents, knotC, KT.ad, noLeaf]), ?_⟩
    simp_all [Rep, zerosL, onesL] <;> omega

theorem with_ok : ∀ (k n : Nat), n + k = 256 → WithOK Tryd.prog 32 98 n := by
  intro k
  induction k with
  | zero =>
    intro n hn t l S w hr hg hL
    cases t with
    | nil =>
      cases hr
      refine (with_nil l n w).mono ?_
      rintro e w' ⟨b, rfl, h⟩
      exact ⟨KT.leaf b l, rfl, h, by simp [Rep]⟩
    | leaf b old =>
      cases hr
      have := hg.lt (by simp)
      omega
    | node b x y =>
      have := hg.lt (by have := hr.1; simp; omega)
      omega
  | succ k ih =>
    intro n hn t l S w hr hg hL
    cases t with
    | nil =>
      cases hr
      refine (with_nil l n w).mono ?_
      rintro e w' ⟨b, rfl, h⟩
      exact ⟨KT.leaf b l, rfl, h, by simp [Rep]⟩
    | leaf b old =>
      cases hr
      exact with_leaf b old l n hg (ih (n + 1) (by omega)) w hL
    | node b x y => exact with_node b x y l S n hr hg (ih (n + 1) (by omega)) w hL
end Go.Proofs.YtcaffacganffjaaDoor
