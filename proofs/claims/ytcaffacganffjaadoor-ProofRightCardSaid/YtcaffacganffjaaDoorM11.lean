/- The walks of a part of the program: GSmt1. Printed by a program of the prover. The walks of a part of the program: GSmt2. Printed by a program of the prover. The walks of a part of the program: GPath. Printed by a program of the prover. -/
import Derived.Test.YtcaffacganffjaaDoorM2
import Derived.Test.YtcaffacganffjaaDoorM6
import Derived.Test.YtcaffacganffjaaDoorM3
import Derived.Test.YtcaffacganffjaaDoorM10

section
namespace Go.Proofs.YtcaffacganffjaaDoor
open Go Go.Vg


set_option maxRecDepth 20000 in
set_option maxHeartbeats 1000000 in
theorem shaSum_spec (bs : List UInt8) (p : Option Addr) (len cap : Nat) (w0 : World) (hK : KeysAt w0) (hsl : SlB w0 p len bs) (hcl : len ≤ cap) (hbig : len < 4611686018427370000) :
    Calls Tryd.prog 53 #[(Value.slice p len cap)] w0 fun e w' => e = .returned (dv (sha bs)) ∧ Ext w0 w' := by
  refine c_enter (n := 10) (args := [(Value.slice p len cap)]) Tryd.func53 rfl rfl (Nat.le_of_ble_eq_true rfl) rfl (fun a hT => ?_)
  simp only [List.zipIdx_cons, List.zipIdx_nil, List.map_cons, List.map_nil, Nat.reduceAdd] at hT
  have hL := Vg.Loc.refl [] w0
  have hlen : bs.length = len := hsl.1
  refine c_seq ?_
  refine c_region ?_
  refine l_do rfl ?_
  refine w_alloc hT hL (by decide) Tryd.ty24 ?_; clear hT hL; intro b1 a w1 hT hL hE hB
  refine l_end ?_
  refine then_norm ?_
  refine c_seq ?_
  refine c_region ?_
  refine l_do rfl ?_
  refine w_callT (xs := []) hT rfl (vs := []) rfl (args := #[]) rfl Tryd.func38 rfl rfl (by decide) ((New_spec _).mono ?_)
  rintro e w2 ⟨bh1, rfl, hX⟩
  refine ⟨_, rfl, ?_⟩; clear hT; intro a hT; replace hT : Tm 10 a ((4, (vp bh1 0)) :: _) := hT
  replace hL : Vg.Loc [] w0 w2 ([[(bh1, ob (arr32 8 ivF ++ (arr8 64 (fun _ => 0) ++ ([(vI 0)]))) 110)], [(b1, ob (digC Dig.zero) 24)]]) := hL.exts hX
  refine l_q hT (q_assign hT rfl) rfl rfl (by decide) ?_; clear hT; intro a hT
  refine l_end ?_
  refine then_norm ?_
  refine c_seq ?_
  refine c_region ?_
  refine l_q hT (q_move hT rfl) rfl rfl (by decide) ?_; clear hT; intro a hT
  refine l_q hT (q_move hT rfl) rfl rfl (by decide) ?_; clear hT; intro a hT
  refine l_do rfl ?_
  refine w_callT (xs := [.tmp 5, .tmp 6]) hT rfl (vs := [(vp bh1 0), (Value.slice p len cap)]) rfl (args := #[(vp bh1 0), (Value.slice p len cap)]) rfl Tryd.func39 rfl rfl (by decide) ((Write_spec bh1 ivF (fun _ => 0) ([]) bs p len cap _ (hK.of hL (by simp)) (by simp; have := hK.lt; have := hL.fresh 0 rfl; omega) (hL.get 0 rfl) HOk.new (hsl.ext hL) (fun h0 ad hp hm => by simp at hm; have := hsl.lt h0 hp; have := hL.fresh 0 rfl; omega) (by omega) (by first | omega | (simp; omega))).mono ?_)
  rintro e w3 ⟨hw1, fw1, rfl, hX, hok1⟩
  refine ⟨_, rfl, ?_⟩; clear hT; intro a hT; replace hT : Tm 10 a ((7, (vI 0)) :: _) := hT
  replace hL : Vg.Loc [] w0 w3 ([[(bh1, ob (arr32 8 hw1 ++ (arr8 64 fw1 ++ ([(vI (([] ++ bs).length : Int))]))) 110)], [(b1, ob (digC Dig.zero) 24)]]) := Vg.Loc.call (ci := [[(bh1, ob (arr32 8 ivF ++ (arr8 64 (fun _ => 0) ++ ([(vI 0)]))) 110)]]) (cr := [[(b1, ob (digC Dig.zero) 24)]]) hL hX
  refine l_end ?_
  refine then_norm ?_
  refine c_seq ?_
  refine c_region ?_
  refine l_q hT (q_move hT rfl) rfl rfl (by decide) ?_; clear hT; intro a hT
  refine l_do rfl ?_
  refine w_callT (xs := [.tmp 8]) hT rfl (vs := [(vp bh1 0)]) rfl (args := #[(vp bh1 0)]) rfl Tryd.func41 rfl rfl (by decide) ((Sum_spec bh1 hw1 fw1 ([] ++ bs) _ (hK.of hL (by simp)) (hL.get 0 rfl) hok1 (by first | omega | (simp; omega))).mono ?_)
  rintro e w4 ⟨rfl, hX⟩
  refine ⟨_, rfl, ?_⟩; clear hT; intro a hT; replace hT : Tm 10 a ((9, (Value.agg (digC (sha ([] ++ bs))).toArray)) :: _) := hT
  replace hL := hL.ext hX
  refine l_do rfl ?_
  refine w_store hT hL 1 (c := digC Dig.zero) rfl rfl Tryd.ty24 rfl (vs := digC (sha ([] ++ bs))) rfl rfl (by first | decide | (simp [arr32_len, arr8_len, digC_len]; done) | (simp [arr32_len, arr8_len, digC_len]; omega)) rfl (c' := digC (sha ([] ++ bs))) rfl ?_; clear hL; intro w5 hL hE
  replace hL : Vg.Loc [] w0 w5 ([[(bh1, ob (arr32 8 hw1 ++ (arr8 64 fw1 ++ ([(vI (([] ++ bs).length : Int))]))) 110)], [(b1, ob (digC (sha ([] ++ bs))) 24)]]) := hL
  refine l_end ?_
  refine then_norm ?_
  refine wp_ret ?_
  refine c_ret (vs := [(Value.agg (digC (sha ([] ++ bs))).toArray)]) (rs := [.cell 2 24]) hT rfl (.agg rfl Tryd.ty24 (hL.rd 1 rfl 0 (ds := digC (sha ([] ++ bs))) rfl) rfl .nil) ?_
  exact ⟨rfl, hL.drop⟩

set_option maxRecDepth 20000 in
set_option maxHeartbeats 1000000 in
theorem width_spec (w : Int) (w0 : World) :
    Calls Tryd.prog 29 #[(vI w)] w0 fun e w' => e = .returned (.bool (widthB w)) ∧ Ext w0 w' := by
  refine c_enter (n := 9) (args := [(vI w)]) Tryd.func29 rfl rfl (Nat.le_of_ble_eq_true rfl) rfl (fun a hT => ?_)
  simp only [List.zipIdx_cons, List.zipIdx_nil, List.map_cons, List.map_nil, Nat.reduceAdd] at hT
  have hL := Vg.Loc.refl [] w0
  refine c_seq ?_
  refine c_region ?_
  refine l_q hT (q_assign hT rfl) rfl rfl (by decide) ?_; clear hT; intro a hT
  refine l_end ?_
  refine then_norm ?_
  refine c_seq ?_
  refine c_region ?_
  refine l_q hT (q_move hT rfl) rfl rfl (by decide) ?_; clear hT; intro a hT
  refine l_q hT (q_geq hT rfl rfl) rfl rfl (by decide) ?_; clear hT; intro a hT
  refine l_q hT (q_move hT rfl) rfl rfl (by decide) ?_; clear hT; intro a hT
  rcases Bool.eq_false_or_eq_true (decide (0 ≤ w)) with hc1 | hc1
  · rw [hc1] at hT
    have hc1 := of_decide_eq_true hc1
    refine l_on hT rfl rfl rfl rfl (w_q hT (q_move hT rfl) rfl (by decide) ?_); clear hT; intro a hT
    refine l_on hT rfl rfl rfl rfl (w_q hT (q_leq hT rfl rfl) rfl (by decide) ?_); clear hT; intro a hT
    refine l_q hT ((q_pick hT rfl rfl rfl).v (v := (Value.bool (decide (w ≤ 32)))) rfl) rfl rfl (by decide) ?_; clear hT; intro a hT
    refine l_q hT (q_assign hT rfl) rfl rfl (by decide) ?_; clear hT; intro a hT
    refine l_end ?_
    refine then_norm ?_
    refine wp_ret ?_
    refine c_ret (vs := [(Value.bool (decide (w ≤ 32)))]) (rs := [.tmp 2]) hT rfl (.tmp rfl .nil) ?_
    exact ⟨by simp [packed, widthB]; try omega, hL.drop⟩
  · rw [hc1] at hT
    have hc1 := of_decide_eq_false hc1
    refine l_off hT rfl rfl rfl rfl rfl (by decide) ?_; clear hT; intro a hT
    refine l_off hT rfl rfl rfl rfl rfl (by decide) ?_; clear hT; intro a hT
    refine l_q hT ((q_pick hT rfl rfl rfl).v (v := (Value.bool false)) rfl) rfl rfl (by decide) ?_; clear hT; intro a hT
    refine l_q hT (q_assign hT rfl) rfl rfl (by decide) ?_; clear hT; intro a hT
    refine l_end ?_
    refine then_norm ?_
    refine wp_ret ?_
    refine c_ret (vs := [(Value.bool false)]) (rs := [.tmp 2]) hT rfl (.tmp rfl .nil) ?_
    exact ⟨by simp [packed, widthB]; try omega, hL.drop⟩

set_option maxRecDepth 20000 in
set_option maxHeartbeats 1000000 in
theorem short_in (wn : Nat) (d : Dig) (hw : wn ≤ 32) (w0 : World) :
    Calls Tryd.prog 40 #[(vI (wn : Int)), (Value.agg (digC d).toArray)] w0 fun e w' => e = .returned (dv (shortD (wn : Int) d)) ∧ Ext w0 w' := by
  refine c_enter (n := 13) (args := [(vI (wn : Int)), (Value.agg (digC d).toArray)]) Tryd.func40 rfl rfl (Nat.le_of_ble_eq_true rfl) rfl (fun a hT => ?_)
  simp only [List.zipIdx_cons, List.zipIdx_nil, List.map_cons, List.map_nil, Nat.reduceAdd] at hT
  have hL := Vg.Loc.refl [] w0
  refine c_seq ?_
  refine c_region ?_
  refine l_do rfl ?_
  refine w_box hT hL (by decide) rfl (c := digC d) rfl ?_; clear hT hL; intro b1 a w1 hT hL hE hB
  refine l_do rfl ?_
  refine w_alloc hT hL (by decide) Tryd.ty24 ?_; clear hT hL; intro b2 a w2 hT hL hE hB
  refine l_end ?_
  refine then_norm ?_
  refine c_seq ?_
  refine c_region ?_
  refine l_do rfl ?_
  refine w_alloc hT hL (by decide) Tryd.ty24 ?_; clear hT hL; intro b3 a w3 hT hL hE hB
  refine l_end ?_
  refine then_norm ?_
  refine c_seq ?_
  refine c_seq ?_
  refine c_region ?_
  refine l_q hT (q_move hT rfl) rfl rfl (by decide) ?_; clear hT; intro a hT
  refine l_do rfl ?_
  refine w_callT (xs := [.tmp 6]) hT rfl (vs := [(vI (wn : Int))]) rfl (args := #[(vI (wn : Int))]) rfl Tryd.func29 rfl rfl (by decide) ((width_spec ((wn : Int)) _).mono ?_)
  rintro e w4 ⟨rfl, hX⟩
  refine ⟨_, rfl, ?_⟩; clear hT; intro a hT; replace hT : Tm 13 a ((7, (Value.bool (widthB (wn : Int)))) :: _) := hT
  replace hL := hL.ext hX
  refine l_end ?_
  refine then_norm ?_
  refine c_true hT rfl (by simp [widthB]; omega) ?_
  refine d_start' hL #[false, false, false, false] [3] rfl rfl rfl ?_; clear hL; intro w5 hL hE; have hR := hL; have hS := Ext.refl w5
  refine d_pure (i := 0) hT #[true, false, false, false] rfl (by kernel_rfl) rfl rfl (by decide) (fun _ _ _ h => h) (fun _ => q_move hT rfl) ?_; clear hT; intro a hT
  refine d_pure (i := 1) hT #[true, true, false, false] rfl (by kernel_rfl) rfl rfl (by decide) (fun _ _ _ h => h) (fun _ => q_slice_arr_hi (h := wn) hT rfl rfl Tryd.arr24 (by omega) (by omega)) ?_; clear hT; intro a hT
  refine d_pure (i := 2) hT #[true, true, true, false] rfl (by kernel_rfl) rfl rfl (by decide) (fun _ _ _ h => h) (fun _ => q_slice_arr hT rfl Tryd.arr24 (by omega)) ?_; clear hT; intro a hT
  refine d_one (i := 3) hT #[true, true, true, true] rfl (by kernel_rfl) rfl ?_
  obtain ⟨k1, hk1⟩ : ∃ k1, k1 = min 32 wn := ⟨_, rfl⟩
  have hlk : (d.l.take k1).length = k1 := by rw [List.length_take, ((SlB.dig (hL.rd 2 rfl 0 (ds := digC d) rfl))).1]; omega
  refine w_copy (off := _) hT hL (by decide) 0 k1 (c := digC Dig.zero) rfl rfl rfl Tryd.sli73 ((SlB.dig (hL.rd 2 rfl 0 (ds := digC d) rfl))) rfl hk1 (by simp [arr32_len, arr8_len, digC_len] <;> omega) (c' := arr8 32 (over Dig.zero.get 0 (d.l.take k1))) (lay_at (pre := []) (mid := arr8 32 Dig.zero.get) (post := []) (i := 0) (by simp [digC_arr]) (by simp [arr32_len, arr8_len, digC_len]) (by simp [arr32_len, arr8_len, digC_len, byC] <;> omega) (lay_arr8 _ _ (by rw [hlk]; omega)) (by simp)) ?_; clear hT hL; intro a w6 hT hL hE
  replace hL : Vg.Loc [] w0 w6 ([[(b3, ob (arr8 32 (over Dig.zero.get 0 (d.l.take k1))) 24)], [(b2, ob (digC Dig.zero) 24)], [(b1, ob (digC d) 24)]]) := hL
  refine ⟨fun hn => absurd (by decide) hn, ?_⟩
  refine d_done (by kernel_rfl) ?_; clear hR hS
  refine then_norm ?_
  refine c_seq ?_
  refine c_region ?_
  refine l_q hT (q_load_agg hT rfl Tryd.ty24 (hL.rd 0 rfl 0 (ds := arr8 32 (over Dig.zero.get 0 (d.l.take k1))) rfl) rfl) rfl rfl (by decide) ?_; clear hT; intro a hT
  refine l_do rfl ?_
  refine w_store hT hL 1 (c := digC Dig.zero) rfl rfl Tryd.ty24 rfl (vs := arr8 32 (over Dig.zero.get 0 (d.l.take k1))) rfl rfl (by first | decide | (simp [arr32_len, arr8_len, digC_len]; done) | (simp [arr32_len, arr8_len, digC_len]; omega)) rfl (c' := arr8 32 (over Dig.zero.get 0 (d.l.take k1))) rfl ?_; clear hL; intro w7 hL hE
  replace hL : Vg.Loc [] w0 w7 ([[(b3, ob (arr8 32 (over Dig.zero.get 0 (d.l.take k1))) 24)], [(b2, ob (arr8 32 (over Dig.zero.get 0 (d.l.take k1))) 24)], [(b1, ob (digC d) 24)]]) := hL
  refine l_end ?_
  refine then_norm ?_
  refine wp_ret ?_
  refine c_ret (vs := [(Value.agg (arr8 32 (over Dig.zero.get 0 (d.l.take k1))).toArray)]) (rs := [.cell 4 24]) hT rfl (.agg rfl Tryd.ty24 (hL.rd 1 rfl 0 (ds := arr8 32 (over Dig.zero.get 0 (d.l.take k1))) rfl) rfl .nil) ?_
  refine ⟨?_, hL.drop⟩; simp only [packed]; rw [short_cells hk1 hw]

set_option maxRecDepth 20000 in
set_option maxHeartbeats 1000000 in
theorem short_out (w : Int) (d : Dig) (hw : ¬ (0 ≤ w ∧ w ≤ 32)) (w0 : World) :
    Calls Tryd.prog 40 #[(vI w), (Value.agg (digC d).toArray)] w0 fun e w' => e = .returned (dv (shortD w d)) ∧ Ext w0 w' := by
  refine c_enter (n := 13) (args := [(vI w), (Value.agg (digC d).toArray)]) Tryd.func40 rfl rfl (Nat.le_of_ble_eq_true rfl) rfl (fun a hT => ?_)
  simp only [List.zipIdx_cons, List.zipIdx_nil, List.map_cons, List.map_nil, Nat.reduceAdd] at hT
  have hL := Vg.Loc.refl [] w0
  refine c_seq ?_
  refine c_region ?_
  refine l_do rfl ?_
  refine w_box hT hL (by decide) rfl (c := digC d) rfl ?_; clear hT hL; intro b1 a w1 hT hL hE hB
  refine l_do rfl ?_
  refine w_alloc hT hL (by decide) Tryd.ty24 ?_; clear hT hL; intro b2 a w2 hT hL hE hB
  refine l_end ?_
  refine then_norm ?_
  refine c_seq ?_
  refine c_region ?_
  refine l_do rfl ?_
  refine w_alloc hT hL (by decide) Tryd.ty24 ?_; clear hT hL; intro b3 a w3 hT hL hE hB
  refine l_end ?_
  refine then_norm ?_
  refine c_seq ?_
  refine c_seq ?_
  refine c_region ?_
  refine l_q hT (q_move hT rfl) rfl rfl (by decide) ?_; clear hT; intro a hT
  refine l_do rfl ?_
  refine w_callT (xs := [.tmp 6]) hT rfl (vs := [(vI w)]) rfl (args := #[(vI w)]) rfl Tryd.func29 rfl rfl (by decide) ((width_spec (w) _).mono ?_)
  rintro e w4 ⟨rfl, hX⟩
  refine ⟨_, rfl, ?_⟩; clear hT; intro a hT; replace hT : Tm 13 a ((7, (Value.bool (widthB w))) :: _) := hT
  replace hL := hL.ext hX
  refine l_end ?_
  refine then_norm ?_
  refine c_false hT rfl (by simp [widthB]; omega) ?_
  refine wp_skip ?_
  refine then_norm ?_
  refine c_seq ?_
  refine c_region ?_
  refine l_q hT (q_load_agg hT rfl Tryd.ty24 (hL.rd 0 rfl 0 (ds := digC Dig.zero) rfl) rfl) rfl rfl (by decide) ?_; clear hT; intro a hT
  refine l_do rfl ?_
  refine w_store hT hL 1 (c := digC Dig.zero) rfl rfl Tryd.ty24 rfl (vs := digC Dig.zero) rfl rfl (by first | decide | (simp [arr32_len, arr8_len, digC_len]; done) | (simp [arr32_len, arr8_len, digC_len]; omega)) rfl (c' := digC Dig.zero) rfl ?_; clear hL; intro w5 hL hE
  replace hL : Vg.Loc [] w0 w5 ([[(b3, ob (digC Dig.zero) 24)], [(b2, ob (digC Dig.zero) 24)], [(b1, ob (digC d) 24)]]) := hL
  refine l_end ?_
  refine then_norm ?_
  refine wp_ret ?_
  refine c_ret (vs := [(Value.agg (digC Dig.zero).toArray)]) (rs := [.cell 4 24]) hT rfl (.agg rfl Tryd.ty24 (hL.rd 1 rfl 0 (ds := digC Dig.zero) rfl) rfl .nil) ?_
  refine ⟨?_, hL.drop⟩; simp only [packed]; rw [short_zero hw]

theorem short_spec (w : Int) (d : Dig) (w0 : World) : Calls Tryd.prog 40 #[vI w, dv d] w0 fun e w' => e = .returned (dv (shortD w d)) ∧ Ext w0 w' := by
  by_cases h : 0 ≤ w ∧ w ≤ 32
  · obtain ⟨wn, rfl⟩ := Int.eq_ofNat_of_zero_le h.1
    exact short_in wn d (by omega) w0
  · exact short_out w d h w0
end Go.Proofs.YtcaffacganffjaaDoor
end

section
namespace Go.Proofs.YtcaffacganffjaaDoor
open Go Go.Vg


set_option maxRecDepth 20000 in
set_option maxHeartbeats 1000000 in
theorem summed_spec (w : Int) (mark : UInt8) (ds : List Dig) (p : Option Addr) (len cap : Nat) (w0 : World) (hK : KeysAt w0) (hsl : SlT w0 p len 32 digC Dig.zero ds) (hbig : len < 100000000000000) :
    Calls Tryd.prog 27 #[(vI w), (v8 mark), (Value.slice p len cap)] w0 fun e w' => e = .returned (dv (shortD w (sha (mark :: catD ds)))) ∧ Ext w0 w' := by
  refine c_enter (n := 29) (args := [(vI w), (v8 mark), (Value.slice p len cap)]) Tryd.func27 rfl rfl (Nat.le_of_ble_eq_true rfl) rfl (fun a hT => ?_)
  simp only [List.zipIdx_cons, List.zipIdx_nil, List.map_cons, List.map_nil, Nat.reduceAdd] at hT
  have hL := Vg.Loc.refl [] w0
  have hlen : ds.length = len := hsl.1
  have hct : ∀ t, t ≤ len → (catD (ds.take t)).length = 32 * t := fun t ht => by rw [catD_len, List.length_take]; omega
  refine c_seq ?_
  refine c_region ?_
  refine l_do rfl ?_
  refine w_alloc hT hL (by decide) Tryd.ty24 ?_; clear hT hL; intro b1 a w1 hT hL hE hB
  refine l_end ?_
  refine then_norm ?_
  refine c_seq ?_
  refine c_region ?_
  refine l_do rfl ?_
  refine w_callT (xs := []) hT rfl (vs := []) rfl (args := #[]) rfl Tryd.func38 rfl rfl (by decide) ((New_spec _).mono ?_)
  rintro e w2 ⟨bh1, rfl, hX⟩
  refine ⟨_, rfl, ?_⟩; clear hT; intro a hT; replace hT : Tm 29 a ((10, (vp bh1 0)) :: _) := hT
  replace hL : Vg.Loc [] w0 w2 ([[(bh1, ob (arr32 8 ivF ++ (arr8 64 (fun _ => 0) ++ ([(vI 0)]))) 110)], [(b1, ob (digC Dig.zero) 24)]]) := hL.exts hX
  refine l_q hT (q_assign hT rfl) rfl rfl (by decide) ?_; clear hT; intro a hT
  refine l_end ?_
  refine then_norm ?_
  refine c_seq ?_
  refine c_region ?_
  refine l_q hT (q_move hT rfl) rfl rfl (by decide) ?_; clear hT; intro a hT
  refine l_q hT (q_move hT rfl) rfl rfl (by decide) ?_; clear hT; intro a hT
  refine l_do rfl ?_
  refine w_buildSlice (e := 5) (ps := [(0, .tmp 12)]) (pv := [(0, (v8 mark))]) (c := [(v8 mark)]) hT hL (by decide) rfl (fun _ => by kernel_rfl) ?_; clear hT hL; intro b2 a w3 hT hL hE hB
  refine l_do rfl ?_
  replace hL : Vg.Loc [] w0 w3 ([[(bh1, ob (arr32 8 ivF ++ (arr8 64 (fun _ => 0) ++ ([(vI 0)]))) 110)], [(b2, ob [(v8 mark)] 5)], [(b1, ob (digC Dig.zero) 24)]]) := hL.front 1 rfl rfl
  refine w_callT (xs := [.tmp 11, .tmp 13]) hT rfl (vs := [(vp bh1 0), (Value.slice (some ⟨b2, 0, none⟩) 1 1)]) rfl (args := #[(vp bh1 0), (Value.slice (some ⟨b2, 0, none⟩) 1 1)]) rfl Tryd.func39 rfl rfl (by decide) ((Write_spec bh1 ivF (fun _ => 0) ([]) [mark] (some ⟨b2, 0, none⟩) 1 1 _ (hK.of hL (by simp)) (by simp; have := hK.lt; have := hL.fresh 0 rfl; omega) (hL.get 0 rfl) HOk.new (SlB.of (hL.rd 1 rfl 0 (ds := byC [mark]) rfl)) (fun _ ad hp => by cases hp; have := hL.ne 0 1 (by decide) rfl rfl; simp; exact fun e => this e.symm) (by omega) (by simp only [List.length_cons, List.length_nil, List.length_append, List.nil_append]; first | omega | (have := hct t (by omega); omega))).mono ?_)
  rintro e w4 ⟨hw1, fw1, rfl, hX, hok1⟩
  refine ⟨_, rfl, ?_⟩; clear hT; intro a hT; replace hT : Tm 29 a ((14, (vI 0)) :: _) := hT
  replace hL : Vg.Loc [] w0 w4 ([[(bh1, ob (arr32 8 hw1 ++ (arr8 64 fw1 ++ ([(vI (([] ++ [mark]).length : Int))]))) 110)], [(b2, ob [(v8 mark)] 5)], [(b1, ob (digC Dig.zero) 24)]]) := Vg.Loc.call (ci := [[(bh1, ob (arr32 8 ivF ++ (arr8 64 (fun _ => 0) ++ ([(vI 0)]))) 110)]]) (cr := [[(b2, ob [(v8 mark)] 5)], [(b1, ob (digC Dig.zero) 24)]]) hL hX
  refine l_end ?_
  refine then_norm ?_
  refine c_seq ?_
  refine c_seq ?_
  refine c_region ?_
  refine l_q hT (q_move hT rfl) rfl rfl (by decide) ?_; clear hT; intro a hT
  refine l_q hT (q_len_slice hT rfl Tryd.underlying27) rfl rfl (by decide) ?_; clear hT; intro a hT
  refine l_q hT (q_move hT rfl) rfl rfl (by decide) ?_; clear hT; intro a hT
  refine l_end ?_
  refine then_norm ?_
  refine wp_block ?_
  refine c_loop (fun mz a wz => ∃ (t : Nat) (h : Nat → UInt32) (buf : Nat → UInt8), mz = len - t ∧ t ≤ len ∧ HOk h buf (mark :: catD (ds.take t)) ∧ Tm 29 a [(17, (vI (t : Int))), (15, (Value.slice p len cap)), (16, (vI (len : Int))), (0, (vI w)), (6, (vp b1 0)), (7, (vp bh1 0))] ∧ Vg.Loc [] w0 wz [[(bh1, ob (arr32 8 h ++ (arr8 64 buf ++ ([(vI ((mark :: catD (ds.take t)).length : Int))]))) 110)], [(b2, ob [(v8 mark)] 5)], [(b1, ob (digC Dig.zero) 24)]]) id len ?_ ?_
  · exact ⟨0, _, _, rfl, by omega, by simpa [catD] using hok1, hT.keep [17, 15, 16, 0, 6, 7] rfl, by simpa [catD] using hL⟩
  clear hT hL
  rintro mz a w5 ⟨t, h, buf, rfl, ht, hok, hT, hL⟩
  refine c_seq ?_
  refine c_region ?_
  refine l_q hT (q_lss hT rfl rfl) rfl rfl (by decide) ?_; clear hT; intro a hT
  refine l_end ?_
  refine then_norm ?_
  refine c_seq ?_
  refine c_if hT rfl (fun hc1 => ?_) (fun hc1 => ?_)
  · skip
    have hc1 := of_decide_eq_true hc1
    refine wp_skip ?_
    refine then_norm ?_
    refine c_seq ?_
    refine wp_block ?_
    refine c_seq ?_
    refine c_region ?_
    obtain ⟨sb1, so1, hp1, hrd1⟩ := (hsl).2 (by omega)
    refine l_q hT (q_indexAddr (b := sb1) (off := so1) (len := len) (cap := cap) hT (by rw [← hp1]; rfl) rfl Tryd.sli27 (by omega) (by omega)) rfl rfl (by decide) ?_; clear hT; intro a hT
    refine l_q hT (q_load_agg hT rfl Tryd.ty24 (Rd.loc (hrd1 t (by omega)) hL (by simp)) rfl) rfl rfl (by decide) ?_; clear hT; intro a hT
    refine l_do rfl ?_
    refine w_alloc hT hL (by decide) Tryd.ty24 ?_; clear hT hL; intro b3 a w6 hT hL hE hB
    refine l_do rfl ?_
    refine w_store hT hL 0 (c := digC Dig.zero) rfl rfl Tryd.ty24 rfl (vs := digC (ds.getD t Dig.zero)) rfl rfl (by first | decide | (simp [arr32_len, arr8_len, digC_len]; done) | (simp [arr32_len, arr8_len, digC_len]; omega)) rfl (c' := digC (ds.getD t Dig.zero)) rfl ?_; clear hL; intro w7 hL hE
    replace hL : Vg.Loc [] w0 w7 ([[(b3, ob (digC (ds.getD t Dig.zero)) 24)], [(bh1, ob (arr32 8 h ++ (arr8 64 buf ++ ([(vI ((mark :: catD (ds.take t)).length : Int))]))) 110)], [(b2, ob [(v8 mark)] 5)], [(b1, ob (digC Dig.zero) 24)]]) := hL
    refine l_end ?_
    refine then_norm ?_
    refine c_region ?_
    refine l_q hT (q_move hT rfl) rfl rfl (by decide) ?_; clear hT; intro a hT
    refine l_q hT (q_slice_arr hT rfl Tryd.arr24 (by omega)) rfl rfl (by decide) ?_; clear hT; intro a hT
    refine l_do rfl ?_
    replace hL : Vg.Loc [] w0 w7 ([[(bh1, ob (arr32 8 h ++ (arr8 64 buf ++ ([(vI ((mark :: catD (ds.take t)).length : Int))]))) 110)], [(b3, ob (digC (ds.getD t Dig.zero)) 24)], [(b2, ob [(v8 mark)] 5)], [(b1, ob (digC Dig.zero) 24)]]) := hL.front 1 rfl rfl
    refine w_callT (xs := [.tmp 21, .tmp 22]) hT rfl (vs := [(vp bh1 0), (Value.slice (some ⟨b3, 0, none⟩) 32 32)]) rfl (args := #[(vp bh1 0), (Value.slice (some ⟨b3, 0, none⟩) 32 32)]) rfl Tryd.func39 rfl rfl (by decide) ((Write_spec bh1 h buf (mark :: catD (ds.take t)) ((ds.getD t Dig.zero).l) (some ⟨b3, 0, none⟩) 32 32 _ (hK.of hL (by simp)) (by simp; have := hK.lt; have := hL.fresh 0 rfl; omega) (hL.get 0 rfl) hok (SlB.dig (hL.rd 1 rfl 0 (ds := digC (ds.getD t Dig.zero)) rfl)) (fun _ ad hp => by cases hp; have := hL.ne 0 1 (by decide) rfl rfl; simp; exact fun e => this e.symm) (by omega) (by simp only [List.length_cons, List.length_nil, List.length_append, List.nil_append]; first | omega | (have := hct t (by omega); omega))).mono ?_)
    rintro e w8 ⟨hw2, fw2, rfl, hX, hok2⟩
    refine ⟨_, rfl, ?_⟩; clear hT; intro a hT; replace hT : Tm 29 a ((23, (vI 0)) :: _) := hT
    replace hL : Vg.Loc [] w0 w8 ([[(bh1, ob (arr32 8 hw2 ++ (arr8 64 fw2 ++ ([(vI ((mark :: catD (ds.take t) ++ ((ds.getD t Dig.zero).l)).length : Int))]))) 110)], [(b3, ob (digC (ds.getD t Dig.zero)) 24)], [(b2, ob [(v8 mark)] 5)], [(b1, ob (digC Dig.zero) 24)]]) := Vg.Loc.call (ci := [[(bh1, ob (arr32 8 h ++ (arr8 64 buf ++ ([(vI ((mark :: catD (ds.take t)).length : Int))]))) 110)]]) (cr := [[(b3, ob (digC (ds.getD t Dig.zero)) 24)], [(b2, ob [(v8 mark)] 5)], [(b1, ob (digC Dig.zero) 24)]]) hL hX
    refine l_end ?_
    refine blk_norm ?_
    refine then_norm ?_
    refine c_region ?_
    refine l_q hT (q_addI hT rfl rfl (r := (t : Int) + 1) rfl (by omega) (by omega)) rfl rfl (by decide) ?_; clear hT; intro a hT
    refine l_q hT (q_move hT rfl) rfl rfl (by decide) ?_; clear hT; intro a hT
    refine l_end ?_
    refine then_norm ?_
    have hm : (mark :: catD (ds.take t) ++ ((ds.getD t Dig.zero).l)) = mark :: catD (ds.take (t + 1)) := by rw [List.cons_append, catD_take_succ ds t (by omega)]
    rw [hm] at hL hok2
    replace hL := hL.sub (.cons_cons _ (.cons _ (.cons_cons _ (.cons_cons _ .slnil))))
    exact ⟨_, ⟨t + 1, _, _, rfl, by omega, hok2, hT.keep [17, 15, 16, 0, 6, 7] rfl, hL⟩, by simp only [id]; omega⟩
  · skip
    have hc1 := of_decide_eq_false hc1
    obtain rfl : t = len := by omega
    refine wp_exit ?_
    refine then_exit ?_
    refine then_exit ?_
    refine blk_exit ?_
    refine then_norm ?_
    refine c_seq ?_
    refine c_region ?_
    refine l_q hT (q_move hT rfl) rfl rfl (by decide) ?_; clear hT; intro a hT
    refine l_q hT (q_move hT rfl) rfl rfl (by decide) ?_; clear hT; intro a hT
    refine l_do rfl ?_
    refine w_callT (xs := [.tmp 26]) hT rfl (vs := [(vp bh1 0)]) rfl (args := #[(vp bh1 0)]) rfl Tryd.func41 rfl rfl (by decide) ((Sum_spec bh1 h buf (mark :: catD (ds.take t)) _ (hK.of hL (by simp)) (hL.get 0 rfl) hok (by simp only [List.length_cons, List.length_nil, List.length_append, List.nil_append]; first | omega | (have := hct t (by omega); omega))).mono ?_)
    rintro e w9 ⟨rfl, hX⟩
    refine ⟨_, rfl, ?_⟩; clear hT; intro a hT; replace hT : Tm 29 a ((27, (Value.agg (digC (sha (mark :: catD (ds.take t)))).toArray)) :: _) := hT
    replace hL := hL.ext hX
    refine l_do rfl ?_
    refine w_callT (xs := [.tmp 25, .tmp 27]) hT rfl (vs := [(vI w), (Value.agg (digC (sha (mark :: catD (ds.take t)))).toArray)]) rfl (args := #[(vI w), (Value.agg (digC (sha (mark :: catD (ds.take t)))).toArray)]) rfl Tryd.func40 rfl rfl (by decide) ((short_spec (w) (sha (mark :: catD (ds.take t))) _).mono ?_)
    rintro e w10 ⟨rfl, hX⟩
    refine ⟨_, rfl, ?_⟩; clear hT; intro a hT; replace hT : Tm 29 a ((28, (Value.agg (digC (shortD (w) (sha (mark :: catD (ds.take t))))).toArray)) :: _) := hT
    replace hL := hL.ext hX
    refine l_do rfl ?_
    refine w_store hT hL 2 (c := digC Dig.zero) rfl rfl Tryd.ty24 rfl (vs := digC (shortD (w) (sha (mark :: catD (ds.take t))))) rfl rfl (by first | decide | (simp [arr32_len, arr8_len, digC_len]; done) | (simp [arr32_len, arr8_len, digC_len]; omega)) rfl (c' := digC (shortD (w) (sha (mark :: catD (ds.take t))))) rfl ?_; clear hL; intro w11 hL hE
    replace hL : Vg.Loc [] w0 w11 ([[(bh1, ob (arr32 8 h ++ (arr8 64 buf ++ ([(vI ((mark :: catD (ds.take t)).length : Int))]))) 110)], [(b2, ob [(v8 mark)] 5)], [(b1, ob (digC (shortD (w) (sha (mark :: catD (ds.take t))))) 24)]]) := hL
    refine l_end ?_
    refine then_norm ?_
    refine wp_ret ?_
    refine c_ret (vs := [(Value.agg (digC (shortD (w) (sha (mark :: catD (ds.take t))))).toArray)]) (rs := [.cell 6 24]) hT rfl (.agg rfl Tryd.ty24 (hL.rd 2 rfl 0 (ds := digC (shortD (w) (sha (mark :: catD (ds.take t))))) rfl) rfl .nil) ?_
    refine ⟨?_, hL.drop⟩; simp only [packed]; rw [List.take_of_length_le (by omega)]

set_option maxRecDepth 20000 in
set_option maxHeartbeats 1000000 in
theorem Empty_spec (w : Int) (w0 : World) (hK : KeysAt w0) :
    Calls Tryd.prog 21 #[(vI w)] w0 fun e w' => e = .returned (dv (emptyD w)) ∧ Ext w0 w' := by
  refine c_enter (n := 5) (args := [(vI w)]) Tryd.func21 rfl rfl (Nat.le_of_ble_eq_true rfl) rfl (fun a hT => ?_)
  simp only [List.zipIdx_cons, List.zipIdx_nil, List.map_cons, List.map_nil, Nat.reduceAdd] at hT
  have hL := Vg.Loc.refl [] w0
  refine c_seq ?_
  refine c_region ?_
  refine l_do rfl ?_
  refine w_alloc hT hL (by decide) Tryd.ty24 ?_; clear hT hL; intro b1 a w1 hT hL hE hB
  refine l_end ?_
  refine then_norm ?_
  refine c_seq ?_
  refine c_region ?_
  refine l_q hT (q_move hT rfl) rfl rfl (by decide) ?_; clear hT; intro a hT
  refine l_do rfl ?_
  refine w_callT (xs := [.tmp 3, .const (.int .u8 2), .const (.slice none 0 0)]) hT rfl (vs := [(vI w), (v8 2), (Value.slice none 0 0)]) rfl (args := #[(vI w), (v8 2), (Value.slice none 0 0)]) rfl Tryd.func27 rfl rfl (by decide) ((summed_spec (w) (2) [] none 0 0 _ (hK.of hL (by simp)) SlT.nil (by decide)).mono ?_)
  rintro e w2 ⟨rfl, hX⟩
  refine ⟨_, rfl, ?_⟩; clear hT; intro a hT; replace hT : Tm 5 a ((4, (Value.agg (digC (shortD (w) (sha (2 :: catD [])))).toArray)) :: _) := hT
  replace hL := hL.ext hX
  refine l_do rfl ?_
  refine w_store hT hL 0 (c := digC Dig.zero) rfl rfl Tryd.ty24 rfl (vs := digC (shortD (w) (sha (2 :: catD [])))) rfl rfl (by first | decide | (simp [arr32_len, arr8_len, digC_len]; done) | (simp [arr32_len, arr8_len, digC_len]; omega)) rfl (c' := digC (shortD (w) (sha (2 :: catD [])))) rfl ?_; clear hL; intro w3 hL hE
  replace hL : Vg.Loc [] w0 w3 ([[(b1, ob (digC (shortD (w) (sha (2 :: catD [])))) 24)]]) := hL
  refine l_end ?_
  refine then_norm ?_
  refine wp_ret ?_
  refine c_ret (vs := [(Value.agg (digC (shortD (w) (sha (2 :: catD [])))).toArray)]) (rs := [.cell 2 24]) hT rfl (.agg rfl Tryd.ty24 (hL.rd 0 rfl 0 (ds := digC (shortD (w) (sha (2 :: catD [])))) rfl) rfl .nil) ?_
  exact ⟨rfl, hL.drop⟩

set_option maxRecDepth 20000 in
set_option maxHeartbeats 1000000 in
theorem Leaf_spec (w : Int) (l : Leaf) (w0 : World) (hK : KeysAt w0) :
    Calls Tryd.prog 16 #[(vI w), (Value.agg (digC l.p ++ (digC l.v)).toArray)] w0 fun e w' => e = .returned (dv (leafD w l)) ∧ Ext w0 w' := by
  refine c_enter (n := 12) (args := [(vI w), (Value.agg (digC l.p ++ (digC l.v)).toArray)]) Tryd.func16 rfl rfl (Nat.le_of_ble_eq_true rfl) rfl (fun a hT => ?_)
  simp only [List.zipIdx_cons, List.zipIdx_nil, List.map_cons, List.map_nil, Nat.reduceAdd] at hT
  have hL := Vg.Loc.refl [] w0
  refine c_seq ?_
  refine c_region ?_
  refine l_do rfl ?_
  refine w_box hT hL (by decide) rfl (c := digC l.p ++ (digC l.v)) rfl ?_; clear hT hL; intro b1 a w1 hT hL hE hB
  refine l_do rfl ?_
  refine w_alloc hT hL (by decide) Tryd.ty24 ?_; clear hT hL; intro b2 a w2 hT hL hE hB
  refine l_end ?_
  refine then_norm ?_
  refine c_seq ?_
  refine c_region ?_
  refine l_q hT (q_move hT rfl) rfl rfl (by decide) ?_; clear hT; intro a hT
  refine l_q hT (q_fieldAddr hT rfl Tryd.fld36_0 rfl) rfl rfl (by decide) ?_; clear hT; intro a hT
  refine l_q hT (q_load_agg hT rfl Tryd.ty24 (hL.rd 1 rfl 0 (ds := digC l.p) rfl) rfl) rfl rfl (by decide) ?_; clear hT; intro a hT
  refine l_q hT (q_fieldAddr hT rfl Tryd.fld36_1 rfl) rfl rfl (by decide) ?_; clear hT; intro a hT
  refine l_q hT (q_load_agg hT rfl Tryd.ty24 (hL.rd 1 rfl 32 (ds := digC l.v) rfl) rfl) rfl rfl (by decide) ?_; clear hT; intro a hT
  refine l_do rfl ?_
  refine w_buildSlice (e := 24) (ps := [(0, .tmp 7), (1, .tmp 9)]) (pv := [(0, (Value.agg (digC l.p).toArray)), (1, (Value.agg (digC l.v).toArray))]) (c := digC l.p ++ (digC l.v)) hT hL (by decide) rfl (fun _ => by kernel_rfl) ?_; clear hT hL; intro b3 a w3 hT hL hE hB
  refine l_do rfl ?_
  refine w_callT (xs := [.tmp 5, .const (.int .u8 0), .tmp 10]) hT rfl (vs := [(vI w), (v8 0), (Value.slice (some ⟨b3, 0, none⟩) 2 2)]) rfl (args := #[(vI w), (v8 0), (Value.slice (some ⟨b3, 0, none⟩) 2 2)]) rfl Tryd.func27 rfl rfl (by decide) ((summed_spec (w) (0) [l.p, l.v] (some ⟨b3, 0, none⟩) 2 2 _ (hK.of hL (by simp)) (SlT.flat (d0 := Dig.zero) digC_len (hL.rd 0 rfl 0 (ds := ([l.p, l.v] : List Dig).flatMap digC) rfl)) (by decide)).mono ?_)
  rintro e w4 ⟨rfl, hX⟩
  refine ⟨_, rfl, ?_⟩; clear hT; intro a hT; replace hT : Tm 12 a ((11, (Value.agg (digC (shortD (w) (sha (0 :: catD [l.p, l.v])))).toArray)) :: _) := hT
  replace hL := hL.ext hX
  refine l_do rfl ?_
  refine w_store hT hL 1 (c := digC Dig.zero) rfl rfl Tryd.ty24 rfl (vs := digC (shortD (w) (sha (0 :: catD [l.p, l.v])))) rfl rfl (by first | decide | (simp [arr32_len, arr8_len, digC_len]; done) | (simp [arr32_len, arr8_len, digC_len]; omega)) rfl (c' := digC (shortD (w) (sha (0 :: catD [l.p, l.v])))) rfl ?_; clear hL; intro w5 hL hE
  replace hL : Vg.Loc [] w0 w5 ([[(b3, ob (digC l.p ++ (digC l.v)) 24)], [(b2, ob (digC (shortD (w) (sha (0 :: catD [l.p, l.v])))) 24)], [(b1, ob (digC l.p ++ (digC l.v)) 36)]]) := hL
  refine l_end ?_
  refine then_norm ?_
  refine wp_ret ?_
  refine c_ret (vs := [(Value.agg (digC (shortD (w) (sha (0 :: catD [l.p, l.v])))).toArray)]) (rs := [.cell 4 24]) hT rfl (.agg rfl Tryd.ty24 (hL.rd 1 rfl 0 (ds := digC (shortD (w) (sha (0 :: catD [l.p, l.v])))) rfl) rfl .nil) ?_
  exact ⟨rfl, hL.drop⟩

set_option maxRecDepth 20000 in
set_option maxHeartbeats 1000000 in
theorem Node_spec (w : Int) (x y : Dig) (w0 : World) (hK : KeysAt w0) :
    Calls Tryd.prog 26 #[(vI w), (Value.agg (digC x).toArray), (Value.agg (digC y).toArray)] w0 fun e w' => e = .returned (dv (nodeD w x y)) ∧ Ext w0 w' := by
  refine c_enter (n := 12) (args := [(vI w), (Value.agg (digC x).toArray), (Value.agg (digC y).toArray)]) Tryd.func26 rfl rfl (Nat.le_of_ble_eq_true rfl) rfl (fun a hT => ?_)
  simp only [List.zipIdx_cons, List.zipIdx_nil, List.map_cons, List.map_nil, Nat.reduceAdd] at hT
  have hL := Vg.Loc.refl [] w0
  refine c_seq ?_
  refine c_region ?_
  refine l_do rfl ?_
  refine w_box hT hL (by decide) rfl (c := digC x) rfl ?_; clear hT hL; intro b1 a w1 hT hL hE hB
  refine l_do rfl ?_
  refine w_box hT hL (by decide) rfl (c := digC y) rfl ?_; clear hT hL; intro b2 a w2 hT hL hE hB
  refine l_do rfl ?_
  refine w_alloc hT hL (by decide) Tryd.ty24 ?_; clear hT hL; intro b3 a w3 hT hL hE hB
  refine l_end ?_
  refine then_norm ?_
  refine c_seq ?_
  refine c_region ?_
  refine l_q hT (q_move hT rfl) rfl rfl (by decide) ?_; clear hT; intro a hT
  refine l_q hT (q_load_agg hT rfl Tryd.ty24 (hL.rd 2 rfl 0 (ds := digC x) rfl) rfl) rfl rfl (by decide) ?_; clear hT; intro a hT
  refine l_q hT (q_load_agg hT rfl Tryd.ty24 (hL.rd 1 rfl 0 (ds := digC y) rfl) rfl) rfl rfl (by decide) ?_; clear hT; intro a hT
  refine l_do rfl ?_
  refine w_buildSlice (e := 24) (ps := [(0, .tmp 8), (1, .tmp 9)]) (pv := [(0, (Value.agg (digC x).toArray)), (1, (Value.agg (digC y).toArray))]) (c := digC x ++ (digC y)) hT hL (by decide) rfl (fun _ => by kernel_rfl) ?_; clear hT hL; intro b4 a w4 hT hL hE hB
  refine l_do rfl ?_
  refine w_callT (xs := [.tmp 7, .const (.int .u8 1), .tmp 10]) hT rfl (vs := [(vI w), (v8 1), (Value.slice (some ⟨b4, 0, none⟩) 2 2)]) rfl (args := #[(vI w), (v8 1), (Value.slice (some ⟨b4, 0, none⟩) 2 2)]) rfl Tryd.func27 rfl rfl (by decide) ((summed_spec (w) (1) [x, y] (some ⟨b4, 0, none⟩) 2 2 _ (hK.of hL (by simp)) (SlT.flat (d0 := Dig.zero) digC_len (hL.rd 0 rfl 0 (ds := ([x, y] : List Dig).flatMap digC) rfl)) (by decide)).mono ?_)
  rintro e w5 ⟨rfl, hX⟩
  refine ⟨_, rfl, ?_⟩; clear hT; intro a hT; replace hT : Tm 12 a ((11, (Value.agg (digC (shortD (w) (sha (1 :: catD [x, y])))).toArray)) :: _) := hT
  replace hL := hL.ext hX
  refine l_do rfl ?_
  refine w_store hT hL 1 (c := digC Dig.zero) rfl rfl Tryd.ty24 rfl (vs := digC (shortD (w) (sha (1 :: catD [x, y])))) rfl rfl (by first | decide | (simp [arr32_len, arr8_len, digC_len]; done) | (simp [arr32_len, arr8_len, digC_len]; omega)) rfl (c' := digC (shortD (w) (sha (1 :: catD [x, y])))) rfl ?_; clear hL; intro w6 hL hE
  replace hL : Vg.Loc [] w0 w6 ([[(b4, ob (digC x ++ (digC y)) 24)], [(b3, ob (digC (shortD (w) (sha (1 :: catD [x, y])))) 24)], [(b2, ob (digC y) 24)], [(b1, ob (digC x) 24)]]) := hL
  refine l_end ?_
  refine then_norm ?_
  refine wp_ret ?_
  refine c_ret (vs := [(Value.agg (digC (shortD (w) (sha (1 :: catD [x, y])))).toArray)]) (rs := [.cell 6 24]) hT rfl (.agg rfl Tryd.ty24 (hL.rd 1 rfl 0 (ds := digC (shortD (w) (sha (1 :: catD [x, y])))) rfl) rfl .nil) ?_
  exact ⟨rfl, hL.drop⟩
end Go.Proofs.YtcaffacganffjaaDoor
end

section
namespace Go.Proofs.YtcaffacganffjaaDoor
open Go Go.Vg


set_option maxRecDepth 20000 in
set_option maxHeartbeats 1000000 in
theorem mask_spec (i : Nat) (hi : i < 1000000) (w0 : World) :
    Calls Tryd.prog 37 #[(vI (i : Int))] w0 fun e w' => e = .returned (v8 (UInt8.ofNat (2 ^ (7 - i % 8)))) ∧ Ext w0 w' := by
  refine c_enter (n := 7) (args := [(vI (i : Int))]) Tryd.func37 rfl rfl (Nat.le_of_ble_eq_true rfl) rfl (fun a hT => ?_)
  simp only [List.zipIdx_cons, List.zipIdx_nil, List.map_cons, List.map_nil, Nat.reduceAdd] at hT
  have hL := Vg.Loc.refl [] w0
  have hm : (7 : Int) - (i : Int) % 8 = ((7 - i % 8 : Nat) : Int) := by omega
  refine c_seq ?_
  refine c_region ?_
  refine l_q hT (q_assign hT rfl) rfl rfl (by decide) ?_; clear hT; intro a hT
  refine l_end ?_
  refine then_norm ?_
  refine c_seq ?_
  refine c_region ?_
  refine l_q hT (q_move hT rfl) rfl rfl (by decide) ?_; clear hT; intro a hT
  refine l_q hT (q_remI hT rfl rfl (by omega) (by omega)) rfl rfl (by decide) ?_; clear hT; intro a hT
  refine l_q hT ((q_subI hT rfl rfl (r := 7 - ((i : Int) % 8)) rfl (by omega) (by omega)).v (v := (vI ((7 - i % 8 : Nat) : Int))) (by rw [hm])) rfl rfl (by decide) ?_; clear hT; intro a hT
  refine l_q hT (q_shl8 (u := 1) (s := (7 - i % 8 : Nat)) hT rfl rfl (by omega)) rfl rfl (by decide) ?_; clear hT; intro a hT
  refine l_q hT (q_assign hT rfl) rfl rfl (by decide) ?_; clear hT; intro a hT
  refine l_end ?_
  refine then_norm ?_
  refine wp_ret ?_
  refine c_ret (vs := [(v8 (shl8 1 (7 - i % 8 : Nat)))]) (rs := [.tmp 2]) hT rfl (.tmp rfl .nil) ?_
  exact ⟨by simp [packed, shl8, Nat.shiftLeft_eq], hL.drop⟩

set_option maxRecDepth 20000 in
set_option maxHeartbeats 1000000 in
theorem Bit_spec (p : Dig) (i : Nat) (hi : i < 256) (w0 : World) :
    Calls Tryd.prog 23 #[(Value.agg (digC p).toArray), (vI (i : Int))] w0 fun e w' => e = .returned (.tuple #[vI (if p.bit i then 1 else 0), vI 0]) ∧ Ext w0 w' := by
  refine c_enter (n := 20) (args := [(Value.agg (digC p).toArray), (vI (i : Int))]) Tryd.func23 rfl rfl (Nat.le_of_ble_eq_true rfl) rfl (fun a hT => ?_)
  simp only [List.zipIdx_cons, List.zipIdx_nil, List.map_cons, List.map_nil, Nat.reduceAdd] at hT
  have hL := Vg.Loc.refl [] w0
  have hb := bit_and (p.get (i / 8)) (7 - i % 8) (by omega)
  refine c_seq ?_
  refine c_region ?_
  refine l_do rfl ?_
  refine w_box hT hL (by decide) rfl (c := digC p) rfl ?_; clear hT hL; intro b1 a w1 hT hL hE hB
  refine l_q hT (q_assign hT rfl) rfl rfl (by decide) ?_; clear hT; intro a hT
  refine l_q hT (q_assign hT rfl) rfl rfl (by decide) ?_; clear hT; intro a hT
  refine l_end ?_
  refine then_norm ?_
  refine c_seq ?_
  refine c_seq ?_
  refine c_region ?_
  refine l_q hT (q_move hT rfl) rfl rfl (by decide) ?_; clear hT; intro a hT
  refine l_q hT ((q_lss hT rfl rfl).b (c := decide ((i : Int) < 0)) (b := false) (decide_eq_false (by omega))) rfl rfl (by decide) ?_; clear hT; intro a hT
  refine l_q hT (q_move hT rfl) rfl rfl (by decide) ?_; clear hT; intro a hT
  refine l_on hT rfl rfl rfl rfl (w_q hT (q_move hT rfl) rfl (by decide) ?_); clear hT; intro a hT
  refine l_on hT rfl rfl rfl rfl (w_q hT ((q_geq hT rfl rfl).b (c := decide (256 ≤ (i : Int))) (b := false) (decide_eq_false (by omega))) rfl (by decide) ?_); clear hT; intro a hT
  refine l_q hT ((q_pick hT rfl rfl rfl).v (v := (Value.bool false)) rfl) rfl rfl (by decide) ?_; clear hT; intro a hT
  refine l_end ?_
  refine then_norm ?_
  refine c_false hT rfl rfl ?_
  refine wp_skip ?_
  refine then_norm ?_
  refine c_seq ?_
  refine c_seq ?_
  refine d_start' hL #[false, false, false, false, false, false, false, false] [] rfl rfl rfl ?_; clear hL; intro w2 hL hE; have hR := hL; have hS := Ext.refl w2
  refine d_pure (i := 0) hT #[true, false, false, false, false, false, false, false] rfl (by kernel_rfl) rfl rfl (by decide) (fun _ _ _ h => h) (fun _ => q_move hT rfl) ?_; clear hT; intro a hT
  refine d_pure (i := 1) hT #[true, true, false, false, false, false, false, false] rfl (by kernel_rfl) rfl rfl (by decide) (fun _ _ _ h => h) (fun _ => (q_quoI hT rfl rfl (by omega) (by omega) (by omega)).v (v := (vI ((i / 8 : Nat) : Int))) (by simp)) ?_; clear hT; intro a hT
  refine d_pure (i := 2) hT #[true, true, true, false, false, false, false, false] rfl (by kernel_rfl) rfl rfl (by decide) (fun _ _ _ h => h) (fun _ => (q_indexAddr_arr hT rfl rfl Tryd.arr24 (by omega) (by omega)).v (v := vp b1 (0 + (i / 8 : Nat))) (by simp)) ?_; clear hT; intro a hT
  refine d_pure (i := 4) hT #[true, true, true, false, true, false, false, false] rfl (by kernel_rfl) rfl rfl (by decide) (fun _ _ _ h => h) (fun _ => q_move hT rfl) ?_; clear hT; intro a hT
  refine d_take (i := 3) hT #[true, true, true, true, true, false, false, false] rfl (by kernel_rfl) rfl rfl (by decide) (fun _ _ _ h => h) (fun _ hs => q_load hT rfl Tryd.ty5 (Rd.ext ((hR.rd 0 rfl 0 (ds := digC p) rfl).dig (i := (i / 8 : Nat)) (by omega)) hs)) hS ?_; clear hT; intro a hT
  refine d_one (i := 5) hT #[true, true, true, true, true, true, false, false] rfl (by kernel_rfl) rfl ?_
  refine w_callT (xs := [.tmp 16]) hT rfl (vs := [(vI (i : Int))]) rfl (args := #[(vI (i : Int))]) rfl Tryd.func37 rfl rfl (by decide) ((mask_spec i (by omega) _).mono ?_)
  rintro e w3 ⟨rfl, hX⟩
  refine ⟨_, rfl, ?_⟩; clear hT; intro a hT; replace hT : Tm 20 a ((17, (v8 (UInt8.ofNat (2 ^ (7 - i % 8))))) :: _) := hT
  replace hL := hL.ext hX
  replace hS := Vg.Loc.ext hS hX; refine ⟨fun _ => hS, ?_⟩
  refine d_pure (i := 6) hT #[true, true, true, true, true, true, true, false] rfl (by kernel_rfl) rfl rfl (by decide) (fun _ _ _ h => h) (fun _ => q_and8 (u := p.get (i / 8 : Nat)) (v := UInt8.ofNat (2 ^ (7 - i % 8))) hT rfl rfl) ?_; clear hT; intro a hT
  refine d_pure (i := 7) hT #[true, true, true, true, true, true, true, true] rfl (by kernel_rfl) rfl rfl (by decide) (fun _ _ _ h => h) (fun _ => q_ne8 (u := (p.get (i / 8 : Nat)) &&& (UInt8.ofNat (2 ^ (7 - i % 8)))) (v := 0) hT rfl rfl) ?_; clear hT; intro a hT
  refine d_done (by kernel_rfl) ?_; clear hR hS
  refine then_norm ?_
  refine c_if hT rfl (fun hc1 => ?_) (fun hc1 => ?_)
  · skip
    have hc1 := of_decide_eq_true hc1
    refine c_seq ?_
    refine c_region ?_
    refine l_q hT (q_assign hT rfl) rfl rfl (by decide) ?_; clear hT; intro a hT
    refine l_q hT (q_assign hT rfl) rfl rfl (by decide) ?_; clear hT; intro a hT
    refine l_end ?_
    refine then_norm ?_
    refine wp_ret ?_
    refine then_ret ?_
    refine c_ret (vs := [(vI 1), (vI 0)]) (rs := [.tmp 4, .tmp 5]) hT rfl (.tmp rfl (.tmp rfl .nil)) ?_
    have hq : p.bit i = true := by unfold Dig.bit; rw [← hb]; simpa using hc1
    exact ⟨by simp [packed, hq], hL.drop⟩
  · skip
    have hc1 := of_decide_eq_false hc1
    refine wp_skip ?_
    refine then_norm ?_
    refine c_seq ?_
    refine c_region ?_
    refine l_q hT (q_assign hT rfl) rfl rfl (by decide) ?_; clear hT; intro a hT
    refine l_q hT (q_assign hT rfl) rfl rfl (by decide) ?_; clear hT; intro a hT
    refine l_end ?_
    refine then_norm ?_
    refine wp_ret ?_
    refine c_ret (vs := [(vI 0), (vI 0)]) (rs := [.tmp 4, .tmp 5]) hT rfl (.tmp rfl (.tmp rfl .nil)) ?_
    have hq : p.bit i = false := by unfold Dig.bit; rw [← hb]; simpa using hc1
    exact ⟨by simp [packed, hq], hL.drop⟩

set_option maxRecDepth 20000 in
set_option maxHeartbeats 1000000 in
theorem sright_spec (p : Dig) (i : Nat) (hi : i < 256) (w0 : World) :
    Calls Tryd.prog 46 #[(Value.agg (digC p).toArray), (vI (i : Int))] w0 fun e w' => e = .returned (.bool (p.bit i)) ∧ Ext w0 w' := by
  refine c_enter (n := 15) (args := [(Value.agg (digC p).toArray), (vI (i : Int))]) Tryd.func46 rfl rfl (Nat.le_of_ble_eq_true rfl) rfl (fun a hT => ?_)
  simp only [List.zipIdx_cons, List.zipIdx_nil, List.map_cons, List.map_nil, Nat.reduceAdd] at hT
  have hL := Vg.Loc.refl [] w0
  refine c_seq ?_
  refine c_region ?_
  refine l_do rfl ?_
  refine w_box hT hL (by decide) rfl (c := digC p) rfl ?_; clear hT hL; intro b1 a w1 hT hL hE hB
  refine l_q hT (q_assign hT rfl) rfl rfl (by decide) ?_; clear hT; intro a hT
  refine l_end ?_
  refine then_norm ?_
  refine c_seq ?_
  refine c_region ?_
  refine l_q hT (q_load_agg hT rfl Tryd.ty24 (hL.rd 0 rfl 0 (ds := digC p) rfl) rfl) rfl rfl (by decide) ?_; clear hT; intro a hT
  refine l_q hT (q_move hT rfl) rfl rfl (by decide) ?_; clear hT; intro a hT
  refine l_do rfl ?_
  refine w_callT (xs := [.tmp 8, .tmp 9]) hT rfl (vs := [(Value.agg (digC p).toArray), (vI (i : Int))]) rfl (args := #[(Value.agg (digC p).toArray), (vI (i : Int))]) rfl Tryd.func23 rfl rfl (by decide) ((Bit_spec p i (by omega) _).mono ?_)
  rintro e w2 ⟨rfl, hX⟩
  refine ⟨_, rfl, ?_⟩; clear hT; intro a hT; replace hT : Tm 15 a ((10, (Value.tuple #[(vI (if p.bit i then 1 else 0)), (vI 0)])) :: _) := hT
  replace hL := hL.ext hX
  refine l_q hT (q_move hT rfl) rfl rfl (by decide) ?_; clear hT; intro a hT
  refine l_q hT (q_extract hT rfl rfl) rfl rfl (by decide) ?_; clear hT; intro a hT
  refine l_q hT (q_extract hT rfl rfl) rfl rfl (by decide) ?_; clear hT; intro a hT
  refine l_q hT (q_assign hT rfl) rfl rfl (by decide) ?_; clear hT; intro a hT
  refine l_q hT (q_assign hT rfl) rfl rfl (by decide) ?_; clear hT; intro a hT
  refine l_end ?_
  refine then_norm ?_
  refine c_seq ?_
  refine c_region ?_
  refine l_q hT (q_move hT rfl) rfl rfl (by decide) ?_; clear hT; intro a hT
  refine l_q hT (q_eql hT rfl rfl) rfl rfl (by decide) ?_; clear hT; intro a hT
  refine l_q hT (q_assign hT rfl) rfl rfl (by decide) ?_; clear hT; intro a hT
  refine l_end ?_
  refine then_norm ?_
  refine wp_ret ?_
  refine c_ret (vs := [(Value.bool (decide ((if p.bit i then 1 else 0) = 1)))]) (rs := [.tmp 4]) hT rfl (.tmp rfl .nil) ?_
  exact ⟨by cases p.bit i <;> simp [packed], hL.drop⟩

set_option maxRecDepth 20000 in
set_option maxHeartbeats 1000000 in
theorem pright_spec (p : Dig) (i : Nat) (hi : i < 256) (w0 : World) :
    Calls Tryd.prog 12 #[(Value.agg (digC p).toArray), (vI (i : Int))] w0 fun e w' => e = .returned (.bool (p.bit i)) ∧ Ext w0 w' := by
  refine c_enter (n := 15) (args := [(Value.agg (digC p).toArray), (vI (i : Int))]) Tryd.func12 rfl rfl (Nat.le_of_ble_eq_true rfl) rfl (fun a hT => ?_)
  simp only [List.zipIdx_cons, List.zipIdx_nil, List.map_cons, List.map_nil, Nat.reduceAdd] at hT
  have hL := Vg.Loc.refl [] w0
  refine c_seq ?_
  refine c_region ?_
  refine l_do rfl ?_
  refine w_box hT hL (by decide) rfl (c := digC p) rfl ?_; clear hT hL; intro b1 a w1 hT hL hE hB
  refine l_q hT (q_assign hT rfl) rfl rfl (by decide) ?_; clear hT; intro a hT
  refine l_end ?_
  refine then_norm ?_
  refine c_seq ?_
  refine c_region ?_
  refine l_q hT (q_load_agg hT rfl Tryd.ty24 (hL.rd 0 rfl 0 (ds := digC p) rfl) rfl) rfl rfl (by decide) ?_; clear hT; intro a hT
  refine l_q hT (q_move hT rfl) rfl rfl (by decide) ?_; clear hT; intro a hT
  refine l_do rfl ?_
  refine w_callT (xs := [.tmp 8, .tmp 9]) hT rfl (vs := [(Value.agg (digC p).toArray), (vI (i : Int))]) rfl (args := #[(Value.agg (digC p).toArray), (vI (i : Int))]) rfl Tryd.func23 rfl rfl (by decide) ((Bit_spec p i (by omega) _).mono ?_)
  rintro e w2 ⟨rfl, hX⟩
  refine ⟨_, rfl, ?_⟩; clear hT; intro a hT; replace hT : Tm 15 a ((10, (Value.tuple #[(vI (if p.bit i then 1 else 0)), (vI 0)])) :: _) := hT
  replace hL := hL.ext hX
  refine l_q hT (q_move hT rfl) rfl rfl (by decide) ?_; clear hT; intro a hT
  refine l_q hT (q_extract hT rfl rfl) rfl rfl (by decide) ?_; clear hT; intro a hT
  refine l_q hT (q_extract hT rfl rfl) rfl rfl (by decide) ?_; clear hT; intro a hT
  refine l_q hT (q_assign hT rfl) rfl rfl (by decide) ?_; clear hT; intro a hT
  refine l_q hT (q_assign hT rfl) rfl rfl (by decide) ?_; clear hT; intro a hT
  refine l_end ?_
  refine then_norm ?_
  refine c_seq ?_
  refine c_region ?_
  refine l_q hT (q_move hT rfl) rfl rfl (by decide) ?_; clear hT; intro a hT
  refine l_q hT (q_eql hT rfl rfl) rfl rfl (by decide) ?_; clear hT; intro a hT
  refine l_q hT (q_assign hT rfl) rfl rfl (by decide) ?_; clear hT; intro a hT
  refine l_end ?_
  refine then_norm ?_
  refine wp_ret ?_
  refine c_ret (vs := [(Value.bool (decide ((if p.bit i then 1 else 0) = 1)))]) (rs := [.tmp 4]) hT rfl (.tmp rfl .nil) ?_
  exact ⟨by cases p.bit i <;> simp [packed], hL.drop⟩
end Go.Proofs.YtcaffacganffjaaDoor
end
