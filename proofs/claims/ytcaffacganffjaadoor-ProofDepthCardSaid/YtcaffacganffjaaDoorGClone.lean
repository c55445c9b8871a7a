/- The walks of a part of the program: GClone. Printed by a program of the prover. -/
import Derived.Test.YtcaffacganffjaaDoorVDig
import Derived.Test.YtcaffacganffjaaDoorVTypes
import Derived.Test.YtcaffacganffjaaDoorVCmp
import Derived.Test.YtcaffacganffjaaDoorGSmt2
namespace Go.Proofs.YtcaffacganffjaaDoor
open Go Go.Vg


set_option maxRecDepth 20000 in
set_option maxHeartbeats 1000000 in
theorem Clone_some (ls : List Leaf) (ad : Addr) (len cap : Nat) (h0 : 0 < len) (hc : len ≤ 4096) (w0 : World) (hsl : SlT w0 (some ad) len 64 leafC noLeaf ls) :
    Calls Tryd.prog 11 #[(Value.slice (some ad) len cap)] w0 fun e w' => ∃ g cap' junk, e = .returned (.slice (some ⟨g, 0, none⟩) len cap') ∧ Vg.Loc [] w0 w' [[(g, ob (ls.flatMap leafC ++ junk) 36)]] ∧ len ≤ cap' := by
  refine c_enter (n := 8) (args := [(Value.slice (some ad) len cap)]) Tryd.func11 rfl rfl (Nat.le_of_ble_eq_true rfl) rfl (fun a hT => ?_)
  simp only [List.zipIdx_cons, List.zipIdx_nil, List.map_cons, List.map_nil, Nat.reduceAdd] at hT
  have hL := Vg.Loc.refl [] w0
  have hlen : ls.length = len := hsl.1
  refine c_seq ?_
  refine c_region ?_
  refine l_q hT (q_assign hT rfl) rfl rfl (by decide) ?_; clear hT; intro a hT
  refine l_end ?_
  refine then_norm ?_
  refine c_seq ?_
  refine c_seq ?_
  refine c_region ?_
  refine l_q hT (q_move hT rfl) rfl rfl (by decide) ?_; clear hT; intro a hT
  refine l_q hT ((q_eq_slnil hT rfl rfl Tryd.underlying22).b (b := false) rfl) rfl rfl (by decide) ?_; clear hT; intro a hT
  refine l_end ?_
  refine then_norm ?_
  refine c_false hT rfl rfl ?_
  refine wp_skip ?_
  refine then_norm ?_
  refine c_seq ?_
  refine c_region ?_
  refine l_do rfl ?_
  refine w_buildSlice (e := 36) (ps := []) (pv := []) (c := []) hT hL (by decide) rfl (fun _ => by kernel_rfl) ?_; clear hT hL; intro b1 a w1 hT hL hE hB
  refine l_q hT (q_move hT rfl) rfl rfl (by decide) ?_; clear hT; intro a hT
  refine l_do rfl ?_
  refine w_append hT hL (by decide) 0 rfl rfl rfl Tryd.app22 (by decide) rfl OwnC.empty (SlT.src leafC_len leafC_one (hsl.ext hL)) (by omega) (by simp only [maxLen]; omega) ?_; clear hT hL; intro p' cap' c' a w2 hown hT hL
  replace hL : Vg.Loc [] w0 w2 ([c']) := hL
  refine l_q hT (q_assign hT rfl) rfl rfl (by decide) ?_; clear hT; intro a hT
  refine l_end ?_
  refine then_norm ?_
  refine wp_ret ?_
  refine c_ret (vs := [(Value.slice p' (0 + len) cap')]) (rs := [.tmp 2]) hT rfl (.tmp rfl .nil) ?_
  obtain ⟨_, hlc, _, hcase⟩ := hown
  rcases hcase with ⟨rfl, rfl, _⟩ | ⟨gb, junk, rfl, rfl, _⟩
  · omega
  · exact ⟨gb, cap', junk, by simp [packed], by simpa using hL, by omega⟩

set_option maxRecDepth 20000 in
set_option maxHeartbeats 1000000 in
theorem Clone_none (p : Option Addr) (cap : Nat) (w0 : World) :
    Calls Tryd.prog 11 #[(Value.slice p 0 cap)] w0 fun e w' => ∃ p' cap', e = .returned (.slice p' 0 cap') ∧ Ext w0 w' := by
  refine c_enter (n := 8) (args := [(Value.slice p 0 cap)]) Tryd.func11 rfl rfl (Nat.le_of_ble_eq_true rfl) rfl (fun a hT => ?_)
  simp only [List.zipIdx_cons, List.zipIdx_nil, List.map_cons, List.map_nil, Nat.reduceAdd] at hT
  have hL := Vg.Loc.refl [] w0
  refine c_seq ?_
  refine c_region ?_
  refine l_q hT (q_assign hT rfl) rfl rfl (by decide) ?_; clear hT; intro a hT
  refine l_end ?_
  refine then_norm ?_
  refine c_seq ?_
  refine c_seq ?_
  refine c_region ?_
  refine l_q hT (q_move hT rfl) rfl rfl (by decide) ?_; clear hT; intro a hT
  refine l_q hT (q_eq_slnil hT rfl rfl Tryd.underlying22) rfl rfl (by decide) ?_; clear hT; intro a hT
  refine l_end ?_
  refine then_norm ?_
  refine c_if hT rfl (fun hc1 => ?_) (fun hc1 => ?_)
  · skip
    refine c_seq ?_
    refine c_region ?_
    refine l_q hT (q_assign hT rfl) rfl rfl (by decide) ?_; clear hT; intro a hT
    refine l_end ?_
    refine then_norm ?_
    refine wp_ret ?_
    refine then_ret ?_
    refine c_ret (vs := [(Value.slice none 0 0)]) (rs := [.tmp 2]) hT rfl (.tmp rfl .nil) ?_
    exact ⟨_, _, rfl, hL.drop⟩
  · skip
    refine wp_skip ?_
    refine then_norm ?_
    refine c_seq ?_
    refine c_region ?_
    refine l_do rfl ?_
    refine w_buildSlice (e := 36) (ps := []) (pv := []) (c := []) hT hL (by decide) rfl (fun _ => by kernel_rfl) ?_; clear hT hL; intro b1 a w1 hT hL hE hB
    refine l_q hT (q_move hT rfl) rfl rfl (by decide) ?_; clear hT; intro a hT
    refine l_do rfl ?_
    refine w_append hT hL (by decide) 0 rfl rfl rfl Tryd.app22 (by decide) rfl OwnC.empty ⟨rfl, rfl, fun h => by omega⟩ (news := []) (by omega) (by simp only [maxLen]; omega) ?_; clear hT hL; intro p' cap' c' a w2 hown hT hL
    replace hL : Vg.Loc [] w0 w2 ([c']) := hL
    refine l_q hT (q_assign hT rfl) rfl rfl (by decide) ?_; clear hT; intro a hT
    refine l_end ?_
    refine then_norm ?_
    refine wp_ret ?_
    refine c_ret (vs := [(Value.slice p' (0 + 0) cap')]) (rs := [.tmp 2]) hT rfl (.tmp rfl .nil) ?_
    exact ⟨_, _, rfl, hL.drop⟩

set_option maxRecDepth 20000 in
set_option maxHeartbeats 1000000 in
theorem isNaN_spec (x : UInt8) (w0 : World) :
    Calls Tryd.prog 72 #[(v8 x)] w0 fun e w' => e = .returned (.bool false) ∧ Ext w0 w' := by
  refine c_enter (n := 6) (args := [(v8 x)]) Tryd.func72 rfl rfl (Nat.le_of_ble_eq_true rfl) rfl (fun a hT => ?_)
  simp only [List.zipIdx_cons, List.zipIdx_nil, List.map_cons, List.map_nil, Nat.reduceAdd] at hT
  have hL := Vg.Loc.refl [] w0
  refine c_seq ?_
  refine c_region ?_
  refine l_q hT (q_assign hT rfl) rfl rfl (by decide) ?_; clear hT; intro a hT
  refine l_end ?_
  refine then_norm ?_
  refine c_seq ?_
  refine c_region ?_
  refine l_q hT (q_move hT rfl) rfl rfl (by decide) ?_; clear hT; intro a hT
  refine l_q hT (q_move hT rfl) rfl rfl (by decide) ?_; clear hT; intro a hT
  refine l_q hT (q_ne8 (u := x) (v := x) hT rfl rfl) rfl rfl (by decide) ?_; clear hT; intro a hT
  refine l_q hT (q_assign hT rfl) rfl rfl (by decide) ?_; clear hT; intro a hT
  refine l_end ?_
  refine then_norm ?_
  refine wp_ret ?_
  refine c_ret (vs := [(Value.bool (decide (x ≠ x)))]) (rs := [.tmp 2]) hT rfl (.tmp rfl .nil) ?_
  exact ⟨by simp [packed], hL.drop⟩

set_option maxRecDepth 20000 in
set_option maxHeartbeats 1000000 in
theorem cmpB_spec (x y : UInt8) (w0 : World) :
    Calls Tryd.prog 57 #[(v8 x), (v8 y)] w0 fun e w' => e = .returned (vI (cmpB x y)) ∧ Ext w0 w' := by
  refine c_enter (n := 20) (args := [(v8 x), (v8 y)]) Tryd.func57 rfl rfl (Nat.le_of_ble_eq_true rfl) rfl (fun a hT => ?_)
  simp only [List.zipIdx_cons, List.zipIdx_nil, List.map_cons, List.map_nil, Nat.reduceAdd] at hT
  have hL := Vg.Loc.refl [] w0
  refine c_seq ?_
  refine c_region ?_
  refine l_q hT (q_assign hT rfl) rfl rfl (by decide) ?_; clear hT; intro a hT
  refine l_end ?_
  refine then_norm ?_
  refine c_seq ?_
  refine c_region ?_
  refine l_q hT (q_move hT rfl) rfl rfl (by decide) ?_; clear hT; intro a hT
  refine l_do rfl ?_
  refine w_callT (xs := [.tmp 7]) hT rfl (vs := [(v8 x)]) rfl (args := #[(v8 x)]) rfl Tryd.func72 rfl rfl (by decide) ((isNaN_spec x _).mono ?_)
  rintro e w1 ⟨rfl, hX⟩
  refine ⟨_, rfl, ?_⟩; clear hT; intro a hT; replace hT : Tm 20 a ((8, (Value.bool false)) :: _) := hT
  replace hL := hL.ext hX
  refine l_q hT (q_assign hT rfl) rfl rfl (by decide) ?_; clear hT; intro a hT
  refine l_end ?_
  refine then_norm ?_
  refine c_seq ?_
  refine c_region ?_
  refine l_q hT (q_move hT rfl) rfl rfl (by decide) ?_; clear hT; intro a hT
  refine l_do rfl ?_
  refine w_callT (xs := [.tmp 9]) hT rfl (vs := [(v8 y)]) rfl (args := #[(v8 y)]) rfl Tryd.func72 rfl rfl (by decide) ((isNaN_spec y _).mono ?_)
  rintro e w2 ⟨rfl, hX⟩
  refine ⟨_, rfl, ?_⟩; clear hT; intro a hT; replace hT : Tm 20 a ((10, (Value.bool false)) :: _) := hT
  replace hL := hL.ext hX
  refine l_q hT (q_assign hT rfl) rfl rfl (by decide) ?_; clear hT; intro a hT
  refine l_end ?_
  refine then_norm ?_
  refine c_seq ?_
  refine c_seq ?_
  refine c_region ?_
  refine l_q hT (q_move hT rfl) rfl rfl (by decide) ?_; clear hT; intro a hT
  refine l_end ?_
  refine then_norm ?_
  refine c_false hT rfl rfl ?_
  refine wp_skip ?_
  refine then_norm ?_
  refine c_seq ?_
  refine c_seq ?_
  refine c_region ?_
  refine l_q hT (q_move hT rfl) rfl rfl (by decide) ?_; clear hT; intro a hT
  refine l_end ?_
  refine then_norm ?_
  refine c_false hT rfl rfl ?_
  refine wp_skip ?_
  refine then_norm ?_
  refine c_seq ?_
  refine c_seq ?_
  refine c_region ?_
  refine l_q hT (q_move hT rfl) rfl rfl (by decide) ?_; clear hT; intro a hT
  refine l_q hT (q_move hT rfl) rfl rfl (by decide) ?_; clear hT; intro a hT
  refine l_q hT (q_ls8 (u := x) (v := y) hT rfl rfl) rfl rfl (by decide) ?_; clear hT; intro a hT
  refine l_end ?_
  refine then_norm ?_
  refine c_if hT rfl (fun hc1 => ?_) (fun hc1 => ?_)
  · skip
    have hc1 := of_decide_eq_true hc1
    refine c_seq ?_
    refine c_region ?_
    refine l_q hT (q_assign hT rfl) rfl rfl (by decide) ?_; clear hT; intro a hT
    refine l_end ?_
    refine then_norm ?_
    refine wp_ret ?_
    refine then_ret ?_
    refine c_ret (vs := [(vI (-1))]) (rs := [.tmp 4]) hT rfl (.tmp rfl .nil) ?_
    refine ⟨?_, hL.drop⟩; simp only [packed]; unfold cmpB; (repeat' split) <;> first | rfl | contradiction
  · skip
    have hc1 := of_decide_eq_false hc1
    refine wp_skip ?_
    refine then_norm ?_
    refine c_seq ?_
    refine c_seq ?_
    refine c_region ?_
    refine l_q hT (q_move hT rfl) rfl rfl (by decide) ?_; clear hT; intro a hT
    refine l_q hT (q_move hT rfl) rfl rfl (by decide) ?_; clear hT; intro a hT
    refine l_q hT (q_gt8 (u := x) (v := y) hT rfl rfl) rfl rfl (by decide) ?_; clear hT; intro a hT
    refine l_end ?_
    refine then_norm ?_
    refine c_if hT rfl (fun hc2 => ?_) (fun hc2 => ?_)
    · skip
      have hc2 := of_decide_eq_true hc2
      refine c_seq ?_
      refine c_region ?_
      refine l_q hT (q_assign hT rfl) rfl rfl (by decide) ?_; clear hT; intro a hT
      refine l_end ?_
      refine then_norm ?_
      refine wp_ret ?_
      refine then_ret ?_
      refine c_ret (vs := [(vI 1)]) (rs := [.tmp 4]) hT rfl (.tmp rfl .nil) ?_
      refine ⟨?_, hL.drop⟩; simp only [packed]; unfold cmpB; (repeat' split) <;> first | rfl | contradiction
    · skip
      have hc2 := of_decide_eq_false hc2
      refine wp_skip ?_
      refine then_norm ?_
      refine c_seq ?_
      refine c_region ?_
      refine l_q hT (q_assign hT rfl) rfl rfl (by decide) ?_; clear hT; intro a hT
      refine l_end ?_
      refine then_norm ?_
      refine wp_ret ?_
      refine c_ret (vs := [(vI 0)]) (rs := [.tmp 4]) hT rfl (.tmp rfl .nil) ?_
      refine ⟨?_, hL.drop⟩; simp only [packed]; unfold cmpB; (repeat' split) <;> first | rfl | contradiction

set_option maxRecDepth 20000 in
set_option maxHeartbeats 1000000 in
theorem cmpL_spec (xs ys : List UInt8) (p q : Option Addr) (l m cp cq : Nat) (hlb : l < 4611686018427387904) (w0 : World) (hx : SlB w0 p l xs) (hy : SlB w0 q m ys) :
    Calls Tryd.prog 44 #[(Value.slice p l cp), (Value.slice q m cq)] w0 fun e w' => e = .returned (vI (cmpL xs ys)) ∧ Ext w0 w' := by
  refine c_enter (n := 36) (args := [(Value.slice p l cp), (Value.slice q m cq)]) Tryd.func44 rfl rfl (Nat.le_of_ble_eq_true rfl) rfl (fun a hT => ?_)
  simp only [List.zipIdx_cons, List.zipIdx_nil, List.map_cons, List.map_nil, Nat.reduceAdd] at hT
  have hL := Vg.Loc.refl [] w0
  have hxt := hx.t
  have hyt := hy.t
  have hxl : xs.length = l := hx.1
  have hyl : ys.length = m := hy.1
  refine c_seq ?_
  refine c_region ?_
  refine l_q hT (q_assign hT rfl) rfl rfl (by decide) ?_; clear hT; intro a hT
  refine l_end ?_
  refine then_norm ?_
  refine c_seq ?_
  refine c_seq ?_
  refine c_region ?_
  refine l_q hT (q_move hT rfl) rfl rfl (by decide) ?_; clear hT; intro a hT
  refine l_q hT (q_len_slice hT rfl Tryd.underlying73) rfl rfl (by decide) ?_; clear hT; intro a hT
  refine l_q hT (q_move hT rfl) rfl rfl (by decide) ?_; clear hT; intro a hT
  refine l_end ?_
  refine then_norm ?_
  refine wp_block ?_
  refine c_loop (fun mz a wz => ∃ t : Nat, mz = l - t ∧ t ≤ l ∧ t ≤ m ∧ cmpL xs ys = cmpL (xs.drop t) (ys.drop t) ∧ Tm 36 a [(0, (Value.slice p l cp)), (1, (Value.slice q m cq)), (4, (vI 0)), (9, (Value.slice p l cp)), (10, (vI (l : Int))), (11, (vI (t : Int)))] ∧ Vg.Loc [] w0 wz []) id l ?_ ?_
  · exact ⟨0, rfl, by omega, by omega, by simp, hT.keep [0, 1, 4, 9, 10, 11] rfl, hL⟩
  clear hT hL
  rintro mz a w1 ⟨t, rfl, ht, htm, hcm, hT, hL⟩
  refine c_seq ?_
  refine c_region ?_
  refine l_q hT (q_lss hT rfl rfl) rfl rfl (by decide) ?_; clear hT; intro a hT
  refine l_end ?_
  refine then_norm ?_
  refine c_seq ?_
  refine c_if hT rfl (fun hc1 => ?_) (fun hc1 => ?_)
  · skip
    have hc1 := of_decide_eq_true hc1
    refine wp_skip ?_
    refine then_norm ?_
    refine c_seq ?_
    refine wp_block ?_
    refine c_seq ?_
    refine c_region ?_
    refine l_q hT (q_move hT rfl) rfl rfl (by decide) ?_; clear hT; intro a hT
    obtain ⟨sb1, so1, hp1, hrd1⟩ := (hxt).2 (by omega)
    refine l_q hT (q_indexAddr (b := sb1) (off := so1) (len := l) (cap := cp) hT (by rw [← hp1]; rfl) rfl Tryd.sli73 (by omega) (by omega)) rfl rfl (by decide) ?_; clear hT; intro a hT
    refine l_q hT (q_load hT rfl Tryd.ty5 (Rd.loc (hrd1 t (by omega)) hL (by simp))) rfl rfl (by decide) ?_; clear hT; intro a hT
    refine l_q hT (q_assign hT rfl) rfl rfl (by decide) ?_; clear hT; intro a hT
    refine l_q hT (q_assign hT rfl) rfl rfl (by decide) ?_; clear hT; intro a hT
    refine l_end ?_
    refine then_norm ?_
    refine c_seq ?_
    refine c_seq ?_
    refine c_region ?_
    refine l_q hT (q_move hT rfl) rfl rfl (by decide) ?_; clear hT; intro a hT
    refine l_q hT (q_move hT rfl) rfl rfl (by decide) ?_; clear hT; intro a hT
    refine l_q hT (q_len_slice hT rfl Tryd.underlying73) rfl rfl (by decide) ?_; clear hT; intro a hT
    refine l_q hT (q_geq hT rfl rfl) rfl rfl (by decide) ?_; clear hT; intro a hT
    refine l_end ?_
    refine then_norm ?_
    refine c_if hT rfl (fun hc2 => ?_) (fun hc2 => ?_)
    · skip
      have hc2 := of_decide_eq_true hc2
      refine c_seq ?_
      refine c_region ?_
      refine l_q hT (q_assign hT rfl) rfl rfl (by decide) ?_; clear hT; intro a hT
      refine l_end ?_
      refine then_norm ?_
      refine wp_ret ?_
      refine then_ret ?_
      refine blk_ret ?_
      refine then_ret ?_
      refine then_ret ?_
      refine blk_ret ?_
      refine then_ret ?_
      refine c_ret (vs := [(vI 1)]) (rs := [.tmp 4]) hT rfl (.tmp rfl .nil) ?_
      refine ⟨?_, hL.drop⟩; rw [hcm, cmpL_end1 (by omega) (by omega)]; rfl
    · skip
      have hc2 := of_decide_eq_false hc2
      refine wp_skip ?_
      refine then_norm ?_
      refine c_seq ?_
      refine c_region ?_
      refine l_q hT (q_move hT rfl) rfl rfl (by decide) ?_; clear hT; intro a hT
      refine l_q hT (q_move hT rfl) rfl rfl (by decide) ?_; clear hT; intro a hT
      obtain ⟨sb2, so2, hp2, hrd2⟩ := (hyt).2 (by omega)
      refine l_q hT (q_indexAddr (b := sb2) (off := so2) (len := m) (cap := cq) hT (by rw [← hp2]; rfl) rfl Tryd.sli73 (by omega) (by omega)) rfl rfl (by decide) ?_; clear hT; intro a hT
      refine l_q hT (q_load hT rfl Tryd.ty5 (Rd.loc (hrd2 t (by omega)) hL (by simp))) rfl rfl (by decide) ?_; clear hT; intro a hT
      refine l_q hT (q_assign hT rfl) rfl rfl (by decide) ?_; clear hT; intro a hT
      refine l_end ?_
      refine then_norm ?_
      refine c_seq ?_
      refine c_region ?_
      refine l_q hT (q_move hT rfl) rfl rfl (by decide) ?_; clear hT; intro a hT
      refine l_q hT (q_move hT rfl) rfl rfl (by decide) ?_; clear hT; intro a hT
      refine l_do rfl ?_
      refine w_callT (xs := [.tmp 24, .tmp 25]) hT rfl (vs := [(v8 (xs.getD t 0)), (v8 (ys.getD t 0))]) rfl (args := #[(v8 (xs.getD t 0)), (v8 (ys.getD t 0))]) rfl Tryd.func57 rfl rfl (by decide) ((cmpB_spec (xs.getD t 0) (ys.getD t 0) _).mono ?_)
      rintro e w2 ⟨rfl, hX⟩
      refine ⟨_, rfl, ?_⟩; clear hT; intro a hT; replace hT : Tm 36 a ((26, (vI (cmpB (xs.getD t 0) (ys.getD t 0)))) :: _) := hT
      replace hL := hL.ext hX
      refine l_q hT (q_assign hT rfl) rfl rfl (by decide) ?_; clear hT; intro a hT
      refine l_end ?_
      refine then_norm ?_
      refine c_seq ?_
      refine c_region ?_
      refine l_q hT (q_move hT rfl) rfl rfl (by decide) ?_; clear hT; intro a hT
      refine l_q hT (q_neq hT rfl rfl) rfl rfl (by decide) ?_; clear hT; intro a hT
      refine l_end ?_
      refine then_norm ?_
      refine c_if hT rfl (fun hc3 => ?_) (fun hc3 => ?_)
      · skip
        have hc3 := of_decide_eq_true hc3
        refine c_seq ?_
        refine c_region ?_
        refine l_q hT (q_move hT rfl) rfl rfl (by decide) ?_; clear hT; intro a hT
        refine l_q hT (q_assign hT rfl) rfl rfl (by decide) ?_; clear hT; intro a hT
        refine l_end ?_
        refine then_norm ?_
        refine wp_ret ?_
        refine blk_ret ?_
        refine then_ret ?_
        refine then_ret ?_
        refine blk_ret ?_
        refine then_ret ?_
        refine c_ret (vs := [(vI (cmpB (xs.getD t 0) (ys.getD t 0)))]) (rs := [.tmp 4]) hT rfl (.tmp rfl .nil) ?_
        refine ⟨?_, hL.drop⟩; rw [hcm, cmpL_step (by omega) (by omega), if_neg (by omega)]; rfl
      · skip
        have hc3 := of_decide_eq_false hc3
        refine wp_skip ?_
        refine blk_norm ?_
        refine then_norm ?_
        refine c_region ?_
        refine l_q hT (q_addI hT rfl rfl (r := (t : Int) + 1) rfl (by omega) (by omega)) rfl rfl (by decide) ?_; clear hT; intro a hT
        refine l_q hT (q_move hT rfl) rfl rfl (by decide) ?_; clear hT; intro a hT
        refine l_end ?_
        refine then_norm ?_
        exact ⟨_, ⟨t + 1, rfl, by omega, by omega, by rw [hcm, cmpL_step (by omega) (by omega), if_pos (by omega)], hT.keep [0, 1, 4, 9, 10, 11] rfl, hL⟩, by simp only [id]; omega⟩
  · skip
    have hc1 := of_decide_eq_false hc1
    refine wp_exit ?_
    refine then_exit ?_
    refine then_exit ?_
    refine blk_exit ?_
    refine then_norm ?_
    refine c_seq ?_
    refine c_seq ?_
    refine c_region ?_
    refine l_q hT (q_move hT rfl) rfl rfl (by decide) ?_; clear hT; intro a hT
    refine l_q hT (q_len_slice hT rfl Tryd.underlying73) rfl rfl (by decide) ?_; clear hT; intro a hT
    refine l_q hT (q_move hT rfl) rfl rfl (by decide) ?_; clear hT; intro a hT
    refine l_q hT (q_len_slice hT rfl Tryd.underlying73) rfl rfl (by decide) ?_; clear hT; intro a hT
    refine l_q hT (q_lss hT rfl rfl) rfl rfl (by decide) ?_; clear hT; intro a hT
    refine l_end ?_
    refine then_norm ?_
    refine c_if hT rfl (fun hc4 => ?_) (fun hc4 => ?_)
    · skip
      have hc4 := of_decide_eq_true hc4
      refine c_seq ?_
      refine c_region ?_
      refine l_q hT (q_assign hT rfl) rfl rfl (by decide) ?_; clear hT; intro a hT
      refine l_end ?_
      refine then_norm ?_
      refine wp_ret ?_
      refine then_ret ?_
      refine c_ret (vs := [(vI (-1))]) (rs := [.tmp 4]) hT rfl (.tmp rfl .nil) ?_
      refine ⟨?_, hL.drop⟩; rw [hcm, cmpL_end2 (by omega), if_pos (by omega)]; rfl
    · skip
      have hc4 := of_decide_eq_false hc4
      refine wp_skip ?_
      refine then_norm ?_
      refine c_seq ?_
      refine c_region ?_
      refine l_q hT (q_assign hT rfl) rfl rfl (by decide) ?_; clear hT; intro a hT
      refine l_end ?_
      refine then_norm ?_
      refine wp_ret ?_
      refine c_ret (vs := [(vI 0)]) (rs := [.tmp 4]) hT rfl (.tmp rfl .nil) ?_
      refine ⟨?_, hL.drop⟩; rw [hcm, cmpL_end2 (by omega), if_neg (by omega)]; rfl

set_option maxRecDepth 20000 in
set_option maxHeartbeats 1000000 in
theorem cmpLeaf_spec (x y : Leaf) (w0 : World) :
    Calls Tryd.prog 43 #[(Value.agg (digC x.p ++ (digC x.v)).toArray), (Value.agg (digC y.p ++ (digC y.v)).toArray)] w0 fun e w' => e = .returned (vI (cmpLeaf x y)) ∧ Ext w0 w' := by
  refine c_enter (n := 10) (args := [(Value.agg (digC x.p ++ (digC x.v)).toArray), (Value.agg (digC y.p ++ (digC y.v)).toArray)]) Tryd.func43 rfl rfl (Nat.le_of_ble_eq_true rfl) rfl (fun a hT => ?_)
  simp only [List.zipIdx_cons, List.zipIdx_nil, List.map_cons, List.map_nil, Nat.reduceAdd] at hT
  have hL := Vg.Loc.refl [] w0
  refine c_seq ?_
  refine c_region ?_
  refine l_do rfl ?_
  refine w_box hT hL (by decide) rfl (c := digC x.p ++ (digC x.v)) rfl ?_; clear hT hL; intro b1 a w1 hT hL hE hB
  refine l_do rfl ?_
  refine w_box hT hL (by decide) rfl (c := digC y.p ++ (digC y.v)) rfl ?_; clear hT hL; intro b2 a w2 hT hL hE hB
  refine l_q hT (q_assign hT rfl) rfl rfl (by decide) ?_; clear hT; intro a hT
  refine l_end ?_
  refine then_norm ?_
  refine c_seq ?_
  refine d_start' hL #[false, false, false, false, false, false] [] rfl rfl rfl ?_; clear hL; intro w3 hL hE; have hR := hL; have hS := Ext.refl w3
  refine d_pure (i := 0) hT #[true, false, false, false, false, false] rfl (by kernel_rfl) rfl rfl (by decide) (fun _ _ _ h => h) (fun _ => q_fieldAddr hT rfl Tryd.fld36_0 rfl) ?_; clear hT; intro a hT
  refine d_pure (i := 1) hT #[true, true, false, false, false, false] rfl (by kernel_rfl) rfl rfl (by decide) (fun _ _ _ h => h) (fun _ => q_slice_arr hT rfl Tryd.arr24 (by omega)) ?_; clear hT; intro a hT
  refine d_pure (i := 2) hT #[true, true, true, false, false, false] rfl (by kernel_rfl) rfl rfl (by decide) (fun _ _ _ h => h) (fun _ => q_fieldAddr hT rfl Tryd.fld36_0 rfl) ?_; clear hT; intro a hT
  refine d_pure (i := 3) hT #[true, true, true, true, false, false] rfl (by kernel_rfl) rfl rfl (by decide) (fun _ _ _ h => h) (fun _ => q_slice_arr hT rfl Tryd.arr24 (by omega)) ?_; clear hT; intro a hT
  refine d_one (i := 4) hT #[true, true, true, true, true, false] rfl (by kernel_rfl) rfl ?_
  refine w_callT (xs := [.tmp 6, .tmp 8]) hT rfl (vs := [(Value.slice (some ⟨b1, 0, none⟩) 32 32), (Value.slice (some ⟨b2, 0, none⟩) 32 32)]) rfl (args := #[(Value.slice (some ⟨b1, 0, none⟩) 32 32), (Value.slice (some ⟨b2, 0, none⟩) 32 32)]) rfl Tryd.func44 rfl rfl (by decide) ((cmpL_spec x.p.l y.p.l (some ⟨b1, 0, none⟩) (some ⟨b2, 0, none⟩) 32 32 32 32 (by decide) _ (SlB.dig (hL.rd 1 rfl 0 (ds := digC x.p) rfl)) (SlB.dig (hL.rd 0 rfl 0 (ds := digC y.p) rfl))).mono ?_)
  rintro e w4 ⟨rfl, hX⟩
  refine ⟨_, rfl, ?_⟩; clear hT; intro a hT; replace hT : Tm 10 a ((9, (vI (cmpL x.p.l y.p.l))) :: _) := hT
  replace hL := hL.ext hX
  replace hS := Vg.Loc.ext hS hX; refine ⟨fun _ => hS, ?_⟩
  refine d_pure (i := 5) hT #[true, true, true, true, true, true] rfl (by kernel_rfl) rfl rfl (by decide) (fun _ _ _ h => h) (fun _ => q_assign hT rfl) ?_; clear hT; intro a hT
  refine d_done (by kernel_rfl) ?_; clear hR hS
  refine then_norm ?_
  refine wp_ret ?_
  refine c_ret (vs := [(vI (cmpL x.p.l y.p.l))]) (rs := [.tmp 4]) hT rfl (.tmp rfl .nil) ?_
  exact ⟨rfl, hL.drop⟩
end Go.Proofs.YtcaffacganffjaaDoor
