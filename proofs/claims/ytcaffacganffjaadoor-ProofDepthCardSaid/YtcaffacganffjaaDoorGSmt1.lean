/- The walks of a part of the program: GSmt1. Printed by a program of the prover. -/
import Derived.Test.YtcaffacganffjaaDoorVDig
import Derived.Test.YtcaffacganffjaaDoorVTypes
import Derived.Test.YtcaffacganffjaaDoorVSha
import Derived.Test.YtcaffacganffjaaDoorVSlice
import Derived.Test.YtcaffacganffjaaDoorGSha4
namespace Go.Proofs.YtcaffacganffjaaDoor
open Go Go.Vg


set_option maxRecDepth 20000 in
set_option maxHeartbeats 1000000 in
theorem shaSum_spec (bs : List UInt8) (p : Option Addr) (len cap : Nat) (w0 : World) (hK : KeysAt w0) (hsl : SlB w0 p len bs) (hcl : len ≤ cap) (hbig : len < 4611686018427370000) :
    Calls Tryd.prog 53 #[(Value.slice p len cap)] w0 fun e w' => e = .returned (dv (sha bs)) ∧ Ext w0 w' := by
  refine c_enter (n := 10) (args := [(Value.slice p len cap)]) Tryd.func53 rfl rfl (Nat.le_of_ble_eq_true rfl) rfl (fun a hT => ?_)
  simp only [List.zipIdx_cons, List.zipIdx_nil, List.map_cons, List.map_nil, Nat.reduceAdd] at hT
  have hL := Vg.Loc.refl [] w0
  have hlen : bs.length = len := hsl.1
  refine c_seq ?_
  refine c_region ?_
  refine l_do rfl ?_
  refine w_alloc hT hL (by decide) Tryd.ty24 ?_; clear hT hL; intro b1 a w1 hT hL hE hB
  refine l_end ?_
  refine then_norm ?_
  refine c_seq ?_
  refine c_region ?_
  refine l_do rfl ?_
  refine w_callT (xs := []) hT rfl (vs := []) rfl (args := #[]) rfl Tryd.func38 rfl rfl (by decide) ((New_spec _).mono ?_)
  rintro e w2 ⟨bh1, rfl, hX⟩
  refine ⟨_, rfl, ?_⟩; clear hT; intro a hT; replace hT : Tm 10 a ((4, (vp bh1 0)) :: _) := hT
  replace hL : Vg.Loc [] w0 w2 ([[(bh1, ob (arr32 8 ivF ++ (arr8 64 (fun _ => 0) ++ ([(vI 0)]))) 110)], [(b1, ob (digC Dig.zero) 24)]]) := hL.exts hX
  refine l_q hT (q_assign hT rfl) rfl rfl (by decide) ?_; clear hT; intro a hT
  refine l_end ?_
  refine then_norm ?_
  refine c_seq ?_
  refine c_region ?_
  refine l_q hT (q_move hT rfl) rfl rfl (by decide) ?_; clear hT; intro a hT
  refine l_q hT (q_move hT rfl) rfl rfl (by decide) ?_; clear hT; intro a hT
  refine l_do rfl ?_
  refine w_callT (xs := [.tmp 5, .tmp 6]) hT rfl (vs := [(vp bh1 0), (Value.slice p len cap)]) rfl (args := #[(vp bh1 0), (Value.slice p len cap)]) rfl Tryd.func39 rfl rfl (by decide) ((Write_spec bh1 ivF (fun _ => 0) ([]) bs p len cap _ (hK.of hL (by simp)) (by simp; have := hK.lt; have := hL.fresh 0 rfl; omega) (hL.get 0 rfl) HOk.new (hsl.ext hL) (fun h0 ad hp hm => by simp at hm; have := hsl.lt h0 hp; have := hL.fresh 0 rfl; omega) (by omega) (by first | omega | (simp; omega))).mono ?_)
  rintro e w3 ⟨hw1, fw1, rfl, hX, hok1⟩
  refine ⟨_, rfl, ?_⟩; clear hT; intro a hT; replace hT : Tm 10 a ((7, (vI 0)) :: _) := hT
  replace hL : Vg.Loc [] w0 w3 ([[(bh1, ob (arr32 8 hw1 ++ (arr8 64 fw1 ++ ([(vI (([] ++ bs).length : Int))]))) 110)], [(b1, ob (digC Dig.zero) 24)]]) := Vg.Loc.call (ci := [[(bh1, ob (arr32 8 ivF ++ (arr8 64 (fun _ => 0) ++ ([(vI 0)]))) 110)]]) (cr := [[(b1, ob (digC Dig.zero) 24)]]) hL hX
  refine l_end ?_
  refine then_norm ?_
  refine c_seq ?_
  refine c_region ?_
  refine l_q hT (q_move hT rfl) rfl rfl (by decide) ?_; clear hT; intro a hT
  refine l_do rfl ?_
  refine w_callT (xs := [.tmp 8]) hT rfl (vs := [(vp bh1 0)]) rfl (args := #[(vp bh1 0)]) rfl Tryd.func41 rfl rfl (by decide) ((Sum_spec bh1 hw1 fw1 ([] ++ bs) _ (hK.of hL (by simp)) (hL.get 0 rfl) hok1 (by first | omega | (simp; omega))).mono ?_)
  rintro e w4 ⟨rfl, hX⟩
  refine ⟨_, rfl, ?_⟩; clear hT; intro a hT; replace hT : Tm 10 a ((9, (Value.agg (digC (sha ([] ++ bs))).toArray)) :: _) := hT
  replace hL := hL.ext hX
  refine l_do rfl ?_
  refine w_store hT hL 1 (c := digC Dig.zero) rfl rfl Tryd.ty24 rfl (vs := digC (sha ([] ++ bs))) rfl rfl (by first | decide | (simp [arr32_len, arr8_len, digC_len]; done) | (simp [arr32_len, arr8_len, digC_len]; omega)) rfl (c' := digC (sha ([] ++ bs))) rfl ?_; clear hL; intro w5 hL hE
  replace hL : Vg.Loc [] w0 w5 ([[(bh1, ob (arr32 8 hw1 ++ (arr8 64 fw1 ++ ([(vI (([] ++ bs).length : Int))]))) 110)], [(b1, ob (digC (sha ([] ++ bs))) 24)]]) := hL
  refine l_end ?_
  refine then_norm ?_
  refine wp_ret ?_
  refine c_ret (vs := [(Value.agg (digC (sha ([] ++ bs))).toArray)]) (rs := [.cell 2 24]) hT rfl (.agg rfl Tryd.ty24 (hL.rd 1 rfl 0 (ds := digC (sha ([] ++ bs))) rfl) rfl .nil) ?_
  exact ⟨rfl, hL.drop⟩

set_option maxRecDepth 20000 in
set_option maxHeartbeats 1000000 in
theorem width_spec (w : Int) (w0 : World) :
    Calls Tryd.prog 29 #[(vI w)] w0 fun e w' => e = .returned (.bool (widthB w)) ∧ Ext w0 w' := by
  refine c_enter (n := 9) (args := [(vI w)]) Tryd.func29 rfl rfl (Nat.le_of_ble_eq_true rfl) rfl (fun a hT => ?_)
  simp only [List.zipIdx_cons, List.zipIdx_nil, List.map_cons, List.map_nil, Nat.reduceAdd] at hT
  have hL := Vg.Loc.refl [] w0
  refine c_seq ?_
  refine c_region ?_
  refine l_q hT (q_assign hT rfl) rfl rfl (by decide) ?_; clear hT; intro a hT
  refine l_end ?_
  refine then_norm ?_
  refine c_seq ?_
  refine c_region ?_
  refine l_q hT (q_move hT rfl) rfl rfl (by decide) ?_; clear hT; intro a hT
  refine l_q hT (q_geq hT rfl rfl) rfl rfl (by decide) ?_; clear hT; intro a hT
  refine l_q hT (q_move hT rfl) rfl rfl (by decide) ?_; clear hT; intro a hT
  rcases Bool.eq_false_or_eq_true (decide (0 ≤ w)) with hc1 | hc1
  · rw [hc1] at hT
    have hc1 := of_decide_eq_true hc1
    refine l_on hT rfl rfl rfl rfl (w_q hT (q_move hT rfl) rfl (by decide) ?_); clear hT; intro a hT
    refine l_on hT rfl rfl rfl rfl (w_q hT (q_leq hT rfl rfl) rfl (by decide) ?_); clear hT; intro a hT
    refine l_q hT ((q_pick hT rfl rfl rfl).v (v := (Value.bool (decide (w ≤ 32)))) rfl) rfl rfl (by decide) ?_; clear hT; intro a hT
    refine l_q hT (q_assign hT rfl) rfl rfl (by decide) ?_; clear hT; intro a hT
    refine l_end ?_
    refine then_norm ?_
    refine wp_ret ?_
    refine c_ret (vs := [(Value.bool (decide (w ≤ 32)))]) (rs := [.tmp 2]) hT rfl (.tmp rfl .nil) ?_
    exact ⟨by simp [packed, widthB]; try omega, hL.drop⟩
  · rw [hc1] at hT
    have hc1 := of_decide_eq_false hc1
    refine l_off hT rfl rfl rfl rfl rfl (by decide) ?_; clear hT; intro a hT
    refine l_off hT rfl rfl rfl rfl rfl (by decide) ?_; clear hT; intro a hT
    refine l_q hT ((q_pick hT rfl rfl rfl).v (v := (Value.bool false)) rfl) rfl rfl (by decide) ?_; clear hT; intro a hT
    refine l_q hT (q_assign hT rfl) rfl rfl (by decide) ?_; clear hT; intro a hT
    refine l_end ?_
    refine then_norm ?_
    refine wp_ret ?_
    refine c_ret (vs := [(Value.bool false)]) (rs := [.tmp 2]) hT rfl (.tmp rfl .nil) ?_
    exact ⟨by simp [packed, widthB]; try omega, hL.drop⟩

set_option maxRecDepth 20000 in
set_option maxHeartbeats 1000000 in
theorem short_in (wn : Nat) (d : Dig) (hw : wn ≤ 32) (w0 : World) :
    Calls Tryd.prog 40 #[(vI (wn : Int)), (Value.agg (digC d).toArray)] w0 fun e w' => e = .returned (dv (shortD (wn : Int) d)) ∧ Ext w0 w' := by
  refine c_enter (n := 13) (args := [(vI (wn : Int)), (Value.agg (digC d).toArray)]) Tryd.func40 rfl rfl (Nat.le_of_ble_eq_true rfl) rfl (fun a hT => ?_)
  simp only [List.zipIdx_cons, List.zipIdx_nil, List.map_cons, List.map_nil, Nat.reduceAdd] at hT
  have hL := Vg.Loc.refl [] w0
  refine c_seq ?_
  refine c_region ?_
  refine l_do rfl ?_
  refine w_box hT hL (by decide) rfl (c := digC d) rfl ?_; clear hT hL; intro b1 a w1 hT hL hE hB
  refine l_do rfl ?_
  refine w_alloc hT hL (by decide) Tryd.ty24 ?_; clear hT hL; intro b2 a w2 hT hL hE hB
  refine l_end ?_
  refine then_norm ?_
  refine c_seq ?_
  refine c_region ?_
  refine l_do rfl ?_
  refine w_alloc hT hL (by decide) Tryd.ty24 ?_; clear hT hL; intro b3 a w3 hT hL hE hB
  refine l_end ?_
  refine then_norm ?_
  refine c_seq ?_
  refine c_seq ?_
  refine c_region ?_
  refine l_q hT (q_move hT rfl) rfl rfl (by decide) ?_; clear hT; intro a hT
  refine l_do rfl ?_
  refine w_callT (xs := [.tmp 6]) hT rfl (vs := [(vI (wn : Int))]) rfl (args := #[(vI (wn : Int))]) rfl Tryd.func29 rfl rfl (by decide) ((width_spec ((wn : Int)) _).mono ?_)
  rintro e w4 ⟨rfl, hX⟩
  refine ⟨_, rfl, ?_⟩; clear hT; intro a hT; replace hT : Tm 13 a ((7, (Value.bool (widthB (wn : Int)))) :: _) := hT
  replace hL := hL.ext hX
  refine l_end ?_
  refine then_norm ?_
  refine c_true hT rfl (by simp [widthB]; omega) ?_
  refine d_start' hL #[false, false, false, false] [3] rfl rfl rfl ?_; clear hL; intro w5 hL hE; have hR := hL; have hS := Ext.refl w5
  refine d_pure (i := 0) hT #[true, false, false, false] rfl (by kernel_rfl) rfl rfl (by decide) (fun _ _ _ h => h) (fun _ => q_move hT rfl) ?_; clear hT; intro a hT
  refine d_pure (i := 1) hT #[true, true, false, false] rfl (by kernel_rfl) rfl rfl (by decide) (fun _ _ _ h => h) (fun _ => q_slice_arr_hi (h := wn) hT rfl rfl Tryd.arr24 (by omega) (by omega)) ?_; clear hT; intro a hT
  refine d_pure (i := 2) hT #[true, true, true, false] rfl (by kernel_rfl) rfl rfl (by decide) (fun _ _ _ h => h) (fun _ => q_slice_arr hT rfl Tryd.arr24 (by omega)) ?_; clear hT; intro a hT
  refine d_one (i := 3) hT #[true, true, true, true] rfl (by kernel_rfl) rfl ?_
  obtain ⟨k1, hk1⟩ : ∃ k1, k1 = min 32 wn := ⟨_, rfl⟩
  have hlk : (d.l.take k1).length = k1 := by rw [List.length_take, ((SlB.dig (hL.rd 2 rfl 0 (ds := digC d) rfl))).1]; omega
  refine w_copy (off := _) hT hL (by decide) 0 k1 (c := digC Dig.zero) rfl rfl rfl Tryd.sli73 ((SlB.dig (hL.rd 2 rfl 0 (ds := digC d) rfl))) rfl hk1 (by simp [arr32_len, arr8_len, digC_len] <;> omega) (c' := arr8 32 (over Dig.zero.get 0 (d.l.take k1))) (lay_at (pre := []) (mid := arr8 32 Dig.zero.get) (post := []) (i := 0) (by simp [digC_arr]) (by simp [arr32_len, arr8_len, digC_len]) (by simp [arr32_len, arr8_len, digC_len, byC] <;> omega) (lay_arr8 _ _ (by rw [hlk]; omega)) (by simp)) ?_; clear hT hL; intro a w6 hT hL hE
  replace hL : Vg.Loc [] w0 w6 ([[(b3, ob (arr8 32 (over Dig.zero.get 0 (d.l.take k1))) 24)], [(b2, ob (digC Dig.zero) 24)], [(b1, ob (digC d) 24)]]) := hL
  refine ⟨fun hn => absurd (by decide) hn, ?_⟩
  refine d_done (by kernel_rfl) ?_; clear hR hS
  refine then_norm ?_
  refine c_seq ?_
  refine c_region ?_
  refine l_q hT (q_load_agg hT rfl Tryd.ty24 (hL.rd 0 rfl 0 (ds := arr8 32 (over Dig.zero.get 0 (d.l.take k1))) rfl) rfl) rfl rfl (by decide) ?_; clear hT; intro a hT
  refine l_do rfl ?_
  refine w_store hT hL 1 (c := digC Dig.zero) rfl rfl Tryd.ty24 rfl (vs := arr8 32 (over Dig.zero.get 0 (d.l.take k1))) rfl rfl (by first | decide | (simp [arr32_len, arr8_len, digC_len]; done) | (simp [arr32_len, arr8_len, digC_len]; omega)) rfl (c' := arr8 32 (over Dig.zero.get 0 (d.l.take k1))) rfl ?_; clear hL; intro w7 hL hE
  replace hL : Vg.Loc [] w0 w7 ([[(b3, ob (arr8 32 (over Dig.zero.get 0 (d.l.take k1))) 24)], [(b2, ob (arr8 32 (over Dig.zero.get 0 (d.l.take k1))) 24)], [(b1, ob (digC d) 24)]]) := hL
  refine l_end ?_
  refine then_norm ?_
  refine wp_ret ?_
  refine c_ret (vs := [(Value.agg (arr8 32 (over Dig.zero.get 0 (d.l.take k1))).toArray)]) (rs := [.cell 4 24]) hT rfl (.agg rfl Tryd.ty24 (hL.rd 1 rfl 0 (ds := arr8 32 (over Dig.zero.get 0 (d.l.take k1))) rfl) rfl .nil) ?_
  refine ⟨?_, hL.drop⟩; simp only [packed]; rw [short_cells hk1 hw]

set_option maxRecDepth 20000 in
set_option maxHeartbeats 1000000 in
theorem short_out (w : Int) (d : Dig) (hw : ¬ (0 ≤ w ∧ w ≤ 32)) (w0 : World) :
    Calls Tryd.prog 40 #[(vI w), (Value.agg (digC d).toArray)] w0 fun e w' => e = .returned (dv (shortD w d)) ∧ Ext w0 w' := by
  refine c_enter (n := 13) (args := [(vI w), (Value.agg (digC d).toArray)]) Tryd.func40 rfl rfl (Nat.le_of_ble_eq_true rfl) rfl (fun a hT => ?_)
  simp only [List.zipIdx_cons, List.zipIdx_nil, List.map_cons, List.map_nil, Nat.reduceAdd] at hT
  have hL := Vg.Loc.refl [] w0
  refine c_seq ?_
  refine c_region ?_
  refine l_do rfl ?_
  refine w_box hT hL (by decide) rfl (c := digC d) rfl ?_; clear hT hL; intro b1 a w1 hT hL hE hB
  refine l_do rfl ?_
  refine w_alloc hT hL (by decide) Tryd.ty24 ?_; clear hT hL; intro b2 a w2 hT hL hE hB
  refine l_end ?_
  refine then_norm ?_
  refine c_seq ?_
  refine c_region ?_
  refine l_do rfl ?_
  refine w_alloc hT hL (by decide) Tryd.ty24 ?_; clear hT hL; intro b3 a w3 hT hL hE hB
  refine l_end ?_
  refine then_norm ?_
  refine c_seq ?_
  refine c_seq ?_
  refine c_region ?_
  refine l_q hT (q_move hT rfl) rfl rfl (by decide) ?_; clear hT; intro a hT
  refine l_do rfl ?_
  refine w_callT (xs := [.tmp 6]) hT rfl (vs := [(vI w)]) rfl (args := #[(vI w)]) rfl Tryd.func29 rfl rfl (by decide) ((width_spec (w) _).mono ?_)
  rintro e w4 ⟨rfl, hX⟩
  refine ⟨_, rfl, ?_⟩; clear hT; intro a hT; replace hT : Tm 13 a ((7, (Value.bool (widthB w))) :: _) := hT
  replace hL := hL.ext hX
  refine l_end ?_
  refine then_norm ?_
  refine c_false hT rfl (by simp [widthB]; omega) ?_
  refine wp_skip ?_
  refine then_norm ?_
  refine c_seq ?_
  refine c_region ?_
  refine l_q hT (q_load_agg hT rfl Tryd.ty24 (hL.rd 0 rfl 0 (ds := digC Dig.zero) rfl) rfl) rfl rfl (by decide) ?_; clear hT; intro a hT
  refine l_do rfl ?_
  refine w_store hT hL 1 (c := digC Dig.zero) rfl rfl Tryd.ty24 rfl (vs := digC Dig.zero) rfl rfl (by first | decide | (simp [arr32_len, arr8_len, digC_len]; done) | (simp [arr32_len, arr8_len, digC_len]; omega)) rfl (c' := digC Dig.zero) rfl ?_; clear hL; intro w5 hL hE
  replace hL : Vg.Loc [] w0 w5 ([[(b3, ob (digC Dig.zero) 24)], [(b2, ob (digC Dig.zero) 24)], [(b1, ob (digC d) 24)]]) := hL
  refine l_end ?_
  refine then_norm ?_
  refine wp_ret ?_
  refine c_ret (vs := [(Value.agg (digC Dig.zero).toArray)]) (rs := [.cell 4 24]) hT rfl (.agg rfl Tryd.ty24 (hL.rd 1 rfl 0 (ds := digC Dig.zero) rfl) rfl .nil) ?_
  refine ⟨?_, hL.drop⟩; simp only [packed]; rw [short_zero hw]

theorem short_spec (w : Int) (d : Dig) (w0 : World) : Calls Tryd.prog 40 #[vI w, dv d] w0 fun e w' => e = .returned (dv (shortD w d)) ∧ Ext w0 w' := by
  by_cases h : 0 ≤ w ∧ w ≤ 32
  · obtain ⟨wn, rfl⟩ := Int.eq_ofNat_of_zero_le h.1
    exact short_in wn d (by omega) w0
  · exact short_out w d h w0
end Go.Proofs.YtcaffacganffjaaDoor
