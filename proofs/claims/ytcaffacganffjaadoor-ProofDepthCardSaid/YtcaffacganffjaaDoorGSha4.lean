/- The walks of a part of the program: GSha4. Printed by a program of the prover. -/
import Derived.Test.YtcaffacganffjaaDoorVDig
import Derived.Test.YtcaffacganffjaaDoorVTypes
import Derived.Test.YtcaffacganffjaaDoorVSha
import Derived.Test.YtcaffacganffjaaDoorVSlice
import Derived.Test.YtcaffacganffjaaDoorGSha3
namespace Go.Proofs.YtcaffacganffjaaDoor
open Go Go.Vg


set_option maxRecDepth 100000 in
set_option maxHeartbeats 4000000 in
theorem Sum_spec (b : Nat) (h : Nat → UInt32) (buf : Nat → UInt8) (m : List UInt8) (w0 : World) (hK : KeysAt w0) (hh : w0.heap[b]? = some (ob (arr32 8 h ++ (arr8 64 buf ++ ([(vI (m.length : Int))]))) 110)) (hok : HOk h buf m) (hbig : m.length < 4611686018427380000) :
    Calls Tryd.prog 41 #[(vp b 0)] w0 fun e w' => e = .returned (dv (sha m)) ∧ Ext w0 w' := by
  refine c_enter (n := 63) (args := [(vp b 0)]) Tryd.func41 rfl rfl (Nat.le_of_ble_eq_true rfl) rfl (fun a hT => ?_)
  simp only [List.zipIdx_cons, List.zipIdx_nil, List.map_cons, List.map_nil, Nat.reduceAdd] at hT
  have hL := Vg.Loc.refl [] w0
  have hpl := padLen_lt m.length
  have hml : (m ++ [128]).length = m.length + 1 := by simp
  refine c_seq ?_
  refine c_region ?_
  refine l_do rfl ?_
  refine w_alloc hT hL (by decide) Tryd.ty24 ?_; clear hT hL; intro b1 a w1 hT hL hE hB
  refine l_end ?_
  refine then_norm ?_
  refine c_seq ?_
  refine c_region ?_
  refine l_do rfl ?_
  refine w_alloc hT hL (by decide) Tryd.ty24 ?_; clear hT hL; intro b2 a w2 hT hL hE hB
  refine l_end ?_
  refine then_norm ?_
  refine c_seq ?_
  refine c_seq ?_
  refine c_region ?_
  refine l_q hT (q_move hT rfl) rfl rfl (by decide) ?_; clear hT; intro a hT
  refine l_q hT ((q_eq_nil hT rfl rfl Tryd.underlying76).b (b := false) rfl) rfl rfl (by decide) ?_; clear hT; intro a hT
  refine l_end ?_
  refine then_norm ?_
  refine c_false hT rfl rfl ?_
  refine wp_skip ?_
  refine then_norm ?_
  refine c_seq ?_
  refine c_region ?_
  refine l_q hT (q_move hT rfl) rfl rfl (by decide) ?_; clear hT; intro a hT
  refine l_q hT (q_nilCheck hT rfl) rfl rfl (by decide) ?_; clear hT; intro a hT
  refine l_q hT (q_load_agg hT rfl Tryd.ty110 (Rd.mk (c := arr32 8 h ++ (arr8 64 buf ++ ([(vI (m.length : Int))]))) (cs := arr32 8 h ++ (arr8 64 buf ++ ([(vI (m.length : Int))]))) (hL.kept hh (by simp)) rfl) rfl) rfl rfl (by decide) ?_; clear hT; intro a hT
  refine l_do rfl ?_
  refine w_alloc hT hL (by decide) Tryd.ty110 ?_; clear hT hL; intro b3 a w3 hT hL hE hB
  refine l_do rfl ?_
  refine w_store hT hL 0 (c := arr32 8 (fun _ => 0) ++ (arr8 64 (fun _ => 0) ++ ([(vI 0)]))) rfl rfl Tryd.ty110 rfl (vs := arr32 8 h ++ (arr8 64 buf ++ ([(vI (m.length : Int))]))) rfl rfl (by first | decide | (simp [arr32_len, arr8_len, digC_len]; done) | (simp [arr32_len, arr8_len, digC_len]; omega)) rfl (c' := arr32 8 h ++ (arr8 64 buf ++ ([(vI (m.length : Int))]))) rfl ?_; clear hL; intro w4 hL hE
  replace hL : Vg.Loc [] w0 w4 ([[(b3, ob (arr32 8 h ++ (arr8 64 buf ++ ([(vI (m.length : Int))]))) 110)], [(b2, ob (digC Dig.zero) 24)], [(b1, ob (digC Dig.zero) 24)]]) := hL
  refine l_end ?_
  refine then_norm ?_
  refine c_seq ?_
  refine c_region ?_
  refine l_do rfl ?_
  refine w_buildSlice (e := 5) (ps := [(0, .const (.int .u8 128))]) (pv := [(0, (v8 128))]) (c := [(v8 128)]) hT hL (by decide) rfl (fun _ => by kernel_rfl) ?_; clear hT hL; intro b4 a w5 hT hL hE hB
  refine l_do rfl ?_
  replace hL : Vg.Loc [] w0 w5 ([[(b3, ob (arr32 8 h ++ (arr8 64 buf ++ ([(vI (m.length : Int))]))) 110)], [(b4, ob [(v8 128)] 5)], [(b2, ob (digC Dig.zero) 24)], [(b1, ob (digC Dig.zero) 24)]]) := hL.front 1 rfl rfl
  refine w_callT (xs := [.tmp 4, .tmp 15]) hT rfl (vs := [(vp b3 0), (Value.slice (some ⟨b4, 0, none⟩) 1 1)]) rfl (args := #[(vp b3 0), (Value.slice (some ⟨b4, 0, none⟩) 1 1)]) rfl Tryd.func39 rfl rfl (by decide) ((Write_spec b3 h buf (m) [128] (some ⟨b4, 0, none⟩) 1 1 _ (hK.of hL (by simp)) (by simp; have := hK.lt; have := hL.fresh 0 rfl; omega) (hL.get 0 rfl) hok (SlB.of (hL.rd 1 rfl 0 (ds := byC [128]) rfl)) (fun _ ad hp => by cases hp; have := hL.ne 0 1 (by decide) rfl rfl; simp; exact fun e => this e.symm) (by omega) (by first | omega | (simp; omega))).mono ?_)
  rintro e w6 ⟨hw1, fw1, rfl, hX, hok1⟩
  refine ⟨_, rfl, ?_⟩; clear hT; intro a hT; replace hT : Tm 63 a ((16, (vI 0)) :: _) := hT
  replace hL : Vg.Loc [] w0 w6 ([[(b3, ob (arr32 8 hw1 ++ (arr8 64 fw1 ++ ([(vI ((m ++ [128]).length : Int))]))) 110)], [(b4, ob [(v8 128)] 5)], [(b2, ob (digC Dig.zero) 24)], [(b1, ob (digC Dig.zero) 24)]]) := Vg.Loc.call (ci := [[(b3, ob (arr32 8 h ++ (arr8 64 buf ++ ([(vI (m.length : Int))]))) 110)]]) (cr := [[(b4, ob [(v8 128)] 5)], [(b2, ob (digC Dig.zero) 24)], [(b1, ob (digC Dig.zero) 24)]]) hL hX
  refine l_end ?_
  refine then_norm ?_
  refine c_seq ?_
  refine c_region ?_
  refine l_do rfl ?_
  refine w_alloc hT hL (by decide) Tryd.ty111 ?_; clear hT hL; intro b5 a w7 hT hL hE hB
  refine l_end ?_
  refine then_norm ?_
  refine c_seq ?_
  refine c_region ?_
  refine l_q hT (q_fieldAddr hT rfl Tryd.fld110_2 rfl) rfl rfl (by decide) ?_; clear hT; intro a hT
  refine l_q hT (q_load hT rfl Tryd.ty3 (hL.rd 1 rfl 72 (ds := [(vI ((m ++ [128]).length : Int))]) rfl)) rfl rfl (by decide) ?_; clear hT; intro a hT
  refine l_q hT ((q_remI hT rfl rfl (by omega) (by omega)).v (v := vI (((m ++ [128]).length % 64 : Nat) : Int)) rfl) rfl rfl (by decide) ?_; clear hT; intro a hT
  refine l_q hT ((q_subI hT rfl rfl (r := 120 - (((m ++ [128]).length % 64 : Nat) : Int)) rfl (by omega) (by omega)).v (v := vI ((120 - (m ++ [128]).length % 64 : Nat) : Int)) (by congr 1; omega)) rfl rfl (by decide) ?_; clear hT; intro a hT
  refine l_q hT ((q_remI hT rfl rfl (by omega) (by omega)).v (v := vI ((padLen m.length : Nat) : Int)) (by simp [padLen])) rfl rfl (by decide) ?_; clear hT; intro a hT
  refine l_q hT (q_assign hT rfl) rfl rfl (by decide) ?_; clear hT; intro a hT
  refine l_end ?_
  refine then_norm ?_
  refine c_seq ?_
  refine c_seq ?_
  refine c_region ?_
  refine l_q hT (q_move hT rfl) rfl rfl (by decide) ?_; clear hT; intro a hT
  refine l_end ?_
  refine then_norm ?_
  refine wp_block ?_
  refine c_loop (fun mz a wz => ∃ t : Nat, mz = 8 - t ∧ t ≤ 8 ∧ Tm 63 a [(22, (vI (t : Int))), (0, (vp b 0)), (2, (vp b1 0)), (3, (vp b2 0)), (4, (vp b3 0)), (5, (vp b5 0)), (6, (vI ((padLen m.length : Nat) : Int)))] ∧ Vg.Loc [] w0 wz [[(b5, ob (arr8 72 (tailTo m.length t)) 111)], [(b3, ob (arr32 8 hw1 ++ (arr8 64 fw1 ++ ([(vI ((m ++ [128]).length : Int))]))) 110)], [(b4, ob [(v8 128)] 5)], [(b2, ob (digC Dig.zero) 24)], [(b1, ob (digC Dig.zero) 24)]]) id 8 ?_ ?_
  · exact ⟨0, rfl, by omega, hT.keep [22, 0, 2, 3, 4, 5, 6] rfl, by rw [tailTo_zero]; exact hL⟩
  clear hT hL
  rintro mz a w8 ⟨t, rfl, ht, hT, hL⟩
  refine c_seq ?_
  refine c_region ?_
  refine l_q hT (q_lss hT rfl rfl) rfl rfl (by decide) ?_; clear hT; intro a hT
  refine l_end ?_
  refine then_norm ?_
  refine c_seq ?_
  refine c_if hT rfl (fun hc1 => ?_) (fun hc1 => ?_)
  · skip
    have hc1 := of_decide_eq_true hc1
    refine wp_skip ?_
    refine then_norm ?_
    refine c_seq ?_
    refine wp_block ?_
    refine c_seq ?_
    refine c_region ?_
    refine l_q hT (q_move hT rfl) rfl rfl (by decide) ?_; clear hT; intro a hT
    refine l_q hT (q_assign hT rfl) rfl rfl (by decide) ?_; clear hT; intro a hT
    refine l_end ?_
    refine then_norm ?_
    refine c_region ?_
    refine l_q hT (q_move hT rfl) rfl rfl (by decide) ?_; clear hT; intro a hT
    refine l_q hT (q_move hT rfl) rfl rfl (by decide) ?_; clear hT; intro a hT
    refine l_q hT ((q_addI hT rfl rfl (r := ((padLen m.length : Nat) : Int) + (t : Int)) rfl (by omega) (by omega)).v (v := vI ((padLen m.length + t : Nat) : Int)) (by congr 1)) rfl rfl (by decide) ?_; clear hT; intro a hT
    refine l_q hT (q_move hT rfl) rfl rfl (by decide) ?_; clear hT; intro a hT
    refine l_q hT (q_nilCheck hT rfl) rfl rfl (by decide) ?_; clear hT; intro a hT
    refine l_q hT (q_fieldAddr hT rfl Tryd.fld110_2 rfl) rfl rfl (by decide) ?_; clear hT; intro a hT
    refine l_q hT (q_load hT rfl Tryd.ty3 ((Rd.mk (c := arr32 8 h ++ (arr8 64 buf ++ ([(vI (m.length : Int))]))) (cs := arr32 8 h ++ (arr8 64 buf ++ ([(vI (m.length : Int))]))) (hL.kept hh (by simp)) rfl).part 72 (ds := [(vI (m.length : Int))]) rfl)) rfl rfl (by decide) ?_; clear hT; intro a hT
    refine l_q hT (q_conv_i_64 (u := m.length) hT rfl Tryd.underlying3 Tryd.underlying112) rfl rfl (by decide) ?_; clear hT; intro a hT
    refine l_q hT (q_mul64 (u := UInt64.ofNat m.length) (v := 8) hT rfl rfl) rfl rfl (by decide) ?_; clear hT; intro a hT
    refine l_q hT (q_move hT rfl) rfl rfl (by decide) ?_; clear hT; intro a hT
    refine l_q hT (q_mulI hT rfl rfl (r := 8 * (t : Int)) rfl (by omega) (by omega)) rfl rfl (by decide) ?_; clear hT; intro a hT
    refine l_q hT ((q_subI hT rfl rfl (r := 56 - 8 * (t : Int)) rfl (by omega) (by omega)).v (v := vI ((56 - 8 * t : Nat) : Int)) (by congr 1; omega)) rfl rfl (by decide) ?_; clear hT; intro a hT
    refine l_q hT (q_shr64 (u := (UInt64.ofNat m.length) * 8) (s := (56 - 8 * t : Nat)) hT rfl rfl (by omega)) rfl rfl (by decide) ?_; clear hT; intro a hT
    refine l_q hT (q_conv_64_8 hT rfl Tryd.underlying112 Tryd.underlying5) rfl rfl (by decide) ?_; clear hT; intro a hT
    refine l_q hT ((q_indexAddr_arr hT rfl rfl Tryd.arr111 (by omega) (by omega)).v (v := vp b5 (0 + (padLen m.length + t : Nat))) (by simp)) rfl rfl (by decide) ?_; clear hT; intro a hT
    refine l_do rfl ?_
    refine w_store hT hL 0 (c := arr8 72 (tailTo m.length t)) rfl rfl Tryd.ty5 rfl (vs := [(v8 ((shr64 ((UInt64.ofNat m.length) * 8) (56 - 8 * t : Nat)).toUInt8))]) rfl rfl (by simp [arr32_len, arr8_len, digC_len]; omega) rfl (c' := arr8 72 (upd (tailTo m.length t) (padLen m.length + t : Nat) ((shr64 ((UInt64.ofNat m.length) * 8) (56 - 8 * t : Nat)).toUInt8))) (lay_at (pre := []) (mid := arr8 72 (tailTo m.length t)) (post := []) (i := (padLen m.length + t : Nat)) (by simp [digC_arr]) (by simp [arr32_len, arr8_len, digC_len]) (by simp [arr32_len, arr8_len, digC_len]; omega) (lay_arr8_one _ _ (by omega)) (by simp)) ?_; clear hL; intro w9 hL hE
    replace hL : Vg.Loc [] w0 w9 ([[(b5, ob (arr8 72 (upd (tailTo m.length t) (padLen m.length + t : Nat) ((shr64 ((UInt64.ofNat m.length) * 8) (56 - 8 * t : Nat)).toUInt8))) 111)], [(b3, ob (arr32 8 hw1 ++ (arr8 64 fw1 ++ ([(vI ((m ++ [128]).length : Int))]))) 110)], [(b4, ob [(v8 128)] 5)], [(b2, ob (digC Dig.zero) 24)], [(b1, ob (digC Dig.zero) 24)]]) := hL
    refine l_end ?_
    refine blk_norm ?_
    refine then_norm ?_
    refine c_region ?_
    refine l_q hT (q_addI hT rfl rfl (r := (t : Int) + 1) rfl (by omega) (by omega)) rfl rfl (by decide) ?_; clear hT; intro a hT
    refine l_q hT (q_move hT rfl) rfl rfl (by decide) ?_; clear hT; intro a hT
    refine l_end ?_
    refine then_norm ?_
    exact ⟨_, ⟨t + 1, rfl, by omega, hT.keep [22, 0, 2, 3, 4, 5, 6] rfl, by rw [tailTo_succ]; exact hL⟩, by simp only [id]; omega⟩
  · skip
    have hc1 := of_decide_eq_false hc1
    obtain rfl : t = 8 := by omega
    refine wp_exit ?_
    refine then_exit ?_
    refine then_exit ?_
    refine blk_exit ?_
    refine then_norm ?_
    refine c_seq ?_
    refine c_region ?_
    refine l_q hT (q_move hT rfl) rfl rfl (by decide) ?_; clear hT; intro a hT
    refine l_q hT ((q_addI hT rfl rfl (r := ((padLen m.length : Nat) : Int) + 8) rfl (by omega) (by omega)).v (v := vI ((padLen m.length + 8 : Nat) : Int)) (by congr 1)) rfl rfl (by decide) ?_; clear hT; intro a hT
    refine l_q hT (q_slice_arr_hi (h := (padLen m.length + 8)) hT rfl rfl Tryd.arr111 (by omega) (by omega)) rfl rfl (by decide) ?_; clear hT; intro a hT
    refine l_do rfl ?_
    replace hL : Vg.Loc [] w0 w8 ([[(b3, ob (arr32 8 hw1 ++ (arr8 64 fw1 ++ ([(vI ((m ++ [128]).length : Int))]))) 110)], [(b5, ob (arr8 72 (tailTo m.length 8)) 111)], [(b4, ob [(v8 128)] 5)], [(b2, ob (digC Dig.zero) 24)], [(b1, ob (digC Dig.zero) 24)]]) := hL.front 1 rfl rfl
    refine w_callT (xs := [.tmp 4, .tmp 43]) hT rfl (vs := [(vp b3 0), (Value.slice (some ⟨b5, 0, none⟩) (padLen m.length + 8) 72)]) rfl (args := #[(vp b3 0), (Value.slice (some ⟨b5, 0, none⟩) (padLen m.length + 8) 72)]) rfl Tryd.func39 rfl rfl (by decide) ((Write_spec b3 hw1 fw1 (m ++ [128]) (List.replicate (padLen m.length) 0 ++ lenBytes m.length) (some ⟨b5, 0, none⟩) (padLen m.length + 8) 72 _ (hK.of hL (by simp)) (by simp; have := hK.lt; have := hL.fresh 0 rfl; omega) (hL.get 0 rfl) hok1 (tail_sl (hL.rd 1 rfl 0 (ds := arr8 72 (tailTo m.length 8)) rfl)) (fun _ ad hp => by cases hp; have := hL.ne 0 1 (by decide) rfl rfl; simp; exact fun e => this e.symm) (by omega) (by first | omega | (simp; omega))).mono ?_)
    rintro e w10 ⟨hw2, fw2, rfl, hX, hok2⟩
    refine ⟨_, rfl, ?_⟩; clear hT; intro a hT; replace hT : Tm 63 a ((44, (vI 0)) :: _) := hT
    replace hL : Vg.Loc [] w0 w10 ([[(b3, ob (arr32 8 hw2 ++ (arr8 64 fw2 ++ ([(vI ((m ++ [128] ++ (List.replicate (padLen m.length) 0 ++ lenBytes m.length)).length : Int))]))) 110)], [(b5, ob (arr8 72 (tailTo m.length 8)) 111)], [(b4, ob [(v8 128)] 5)], [(b2, ob (digC Dig.zero) 24)], [(b1, ob (digC Dig.zero) 24)]]) := Vg.Loc.call (ci := [[(b3, ob (arr32 8 hw1 ++ (arr8 64 fw1 ++ ([(vI ((m ++ [128]).length : Int))]))) 110)]]) (cr := [[(b5, ob (arr8 72 (tailTo m.length 8)) 111)], [(b4, ob [(v8 128)] 5)], [(b2, ob (digC Dig.zero) 24)], [(b1, ob (digC Dig.zero) 24)]]) hL hX
    refine l_end ?_
    refine then_norm ?_
    refine c_seq ?_
    refine c_seq ?_
    refine c_region ?_
    refine l_q hT (q_move hT rfl) rfl rfl (by decide) ?_; clear hT; intro a hT
    refine l_end ?_
    refine then_norm ?_
    refine wp_block ?_
    refine c_loop (fun mz a wz => ∃ t : Nat, mz = 32 - t ∧ t ≤ 32 ∧ Tm 63 a [(45, (vI (t : Int))), (2, (vp b1 0)), (3, (vp b2 0)), (4, (vp b3 0))] ∧ Vg.Loc [] w0 wz [[(b3, ob (arr32 8 hw2 ++ (arr8 64 fw2 ++ ([(vI ((m ++ [128] ++ (List.replicate (padLen m.length) 0 ++ lenBytes m.length)).length : Int))]))) 110)], [(b5, ob (arr8 72 (tailTo m.length 8)) 111)], [(b4, ob [(v8 128)] 5)], [(b2, ob (arr8 32 (digTo hw2 t)) 24)], [(b1, ob (digC Dig.zero) 24)]]) id 32 ?_ ?_
    · exact ⟨0, rfl, by omega, hT.keep [45, 2, 3, 4] rfl, by rw [← digTo_zero]; exact hL⟩
    clear hT hL
    rintro mz a w11 ⟨t, rfl, ht, hT, hL⟩
    refine c_seq ?_
    refine c_region ?_
    refine l_q hT (q_lss hT rfl rfl) rfl rfl (by decide) ?_; clear hT; intro a hT
    refine l_end ?_
    refine then_norm ?_
    refine c_seq ?_
    refine c_if hT rfl (fun hc2 => ?_) (fun hc2 => ?_)
    · skip
      have hc2 := of_decide_eq_true hc2
      refine wp_skip ?_
      refine then_norm ?_
      refine c_seq ?_
      refine wp_block ?_
      refine c_seq ?_
      refine c_region ?_
      refine l_q hT (q_move hT rfl) rfl rfl (by decide) ?_; clear hT; intro a hT
      refine l_q hT (q_assign hT rfl) rfl rfl (by decide) ?_; clear hT; intro a hT
      refine l_end ?_
      refine then_norm ?_
      refine c_region ?_
      refine l_q hT (q_move hT rfl) rfl rfl (by decide) ?_; clear hT; intro a hT
      refine l_q hT (q_move hT rfl) rfl rfl (by decide) ?_; clear hT; intro a hT
      refine l_q hT ((q_quoI hT rfl rfl (by omega) (by omega) (by omega)).v (v := vI ((t / 4 : Nat) : Int)) rfl) rfl rfl (by decide) ?_; clear hT; intro a hT
      refine l_q hT (q_fieldAddr hT rfl Tryd.fld110_0 rfl) rfl rfl (by decide) ?_; clear hT; intro a hT
      refine l_q hT ((q_indexAddr_arr hT rfl rfl Tryd.arr107 (by omega) (by omega)).v (v := vp b3 (0 + (t / 4 : Nat))) (by simp)) rfl rfl (by decide) ?_; clear hT; intro a hT
      refine l_q hT (q_load hT rfl Tryd.ty86 (Rd.at32 (hL.rd 0 rfl 0 (ds := arr32 8 hw2) rfl) (i := (t / 4 : Nat)) (by omega))) rfl rfl (by decide) ?_; clear hT; intro a hT
      refine l_q hT (q_move hT rfl) rfl rfl (by decide) ?_; clear hT; intro a hT
      refine l_q hT ((q_remI hT rfl rfl (by omega) (by omega)).v (v := vI ((t % 4 : Nat) : Int)) rfl) rfl rfl (by decide) ?_; clear hT; intro a hT
      refine l_q hT (q_mulI hT rfl rfl (r := 8 * ((t % 4 : Nat) : Int)) rfl (by omega) (by omega)) rfl rfl (by decide) ?_; clear hT; intro a hT
      refine l_q hT ((q_subI hT rfl rfl (r := 24 - 8 * ((t % 4 : Nat) : Int)) rfl (by omega) (by omega)).v (v := vI ((24 - 8 * (t % 4) : Nat) : Int)) (by congr 1; omega)) rfl rfl (by decide) ?_; clear hT; intro a hT
      refine l_q hT (q_shr32 (u := hw2 (t / 4 : Nat)) (s := (24 - 8 * (t % 4) : Nat)) hT rfl rfl (by omega)) rfl rfl (by decide) ?_; clear hT; intro a hT
      refine l_q hT (q_conv_32_8 hT rfl Tryd.underlying86 Tryd.underlying5) rfl rfl (by decide) ?_; clear hT; intro a hT
      refine l_q hT ((q_indexAddr_arr hT rfl rfl Tryd.arr24 (by omega) (by omega)).v (v := vp b2 (0 + t)) (by simp)) rfl rfl (by decide) ?_; clear hT; intro a hT
      refine l_do rfl ?_
      refine w_store hT hL 3 (c := arr8 32 (digTo hw2 t)) rfl rfl Tryd.ty5 rfl (vs := [(v8 ((shr32 (hw2 (t / 4 : Nat)) (24 - 8 * (t % 4) : Nat)).toUInt8))]) rfl rfl (by simp [arr32_len, arr8_len, digC_len]; omega) rfl (c' := arr8 32 (upd (digTo hw2 t) t ((shr32 (hw2 (t / 4 : Nat)) (24 - 8 * (t % 4) : Nat)).toUInt8))) (lay_at (pre := []) (mid := arr8 32 (digTo hw2 t)) (post := []) (i := t) (by simp [digC_arr]) (by simp [arr32_len, arr8_len, digC_len]) (by simp [arr32_len, arr8_len, digC_len]; omega) (lay_arr8_one _ _ (by omega)) (by simp)) ?_; clear hL; intro w12 hL hE
      replace hL : Vg.Loc [] w0 w12 ([[(b3, ob (arr32 8 hw2 ++ (arr8 64 fw2 ++ ([(vI ((m ++ [128] ++ (List.replicate (padLen m.length) 0 ++ lenBytes m.length)).length : Int))]))) 110)], [(b5, ob (arr8 72 (tailTo m.length 8)) 111)], [(b4, ob [(v8 128)] 5)], [(b2, ob (arr8 32 (upd (digTo hw2 t) t ((shr32 (hw2 (t / 4 : Nat)) (24 - 8 * (t % 4) : Nat)).toUInt8))) 24)], [(b1, ob (digC Dig.zero) 24)]]) := hL
      refine l_end ?_
      refine blk_norm ?_
      refine then_norm ?_
      refine c_region ?_
      refine l_q hT (q_addI hT rfl rfl (r := (t : Int) + 1) rfl (by omega) (by omega)) rfl rfl (by decide) ?_; clear hT; intro a hT
      refine l_q hT (q_move hT rfl) rfl rfl (by decide) ?_; clear hT; intro a hT
      refine l_end ?_
      refine then_norm ?_
      exact ⟨_, ⟨t + 1, rfl, by omega, hT.keep [45, 2, 3, 4] rfl, by rw [digTo_succ]; exact hL⟩, by simp only [id]; omega⟩
    · skip
      have hc2 := of_decide_eq_false hc2
      obtain rfl : t = 32 := by omega
      refine wp_exit ?_
      refine then_exit ?_
      refine then_exit ?_
      refine blk_exit ?_
      refine then_norm ?_
      refine c_seq ?_
      refine c_region ?_
      refine l_q hT (q_load_agg hT rfl Tryd.ty24 (hL.rd 3 rfl 0 (ds := arr8 32 (digTo hw2 32)) rfl) rfl) rfl rfl (by decide) ?_; clear hT; intro a hT
      refine l_do rfl ?_
      refine w_store hT hL 4 (c := digC Dig.zero) rfl rfl Tryd.ty24 rfl (vs := arr8 32 (digTo hw2 32)) rfl rfl (by first | decide | (simp [arr32_len, arr8_len, digC_len]; done) | (simp [arr32_len, arr8_len, digC_len]; omega)) rfl (c' := arr8 32 (digTo hw2 32)) rfl ?_; clear hL; intro w13 hL hE
      replace hL : Vg.Loc [] w0 w13 ([[(b3, ob (arr32 8 hw2 ++ (arr8 64 fw2 ++ ([(vI ((m ++ [128] ++ (List.replicate (padLen m.length) 0 ++ lenBytes m.length)).length : Int))]))) 110)], [(b5, ob (arr8 72 (tailTo m.length 8)) 111)], [(b4, ob [(v8 128)] 5)], [(b2, ob (arr8 32 (digTo hw2 32)) 24)], [(b1, ob (arr8 32 (digTo hw2 32)) 24)]]) := hL
      refine l_end ?_
      refine then_norm ?_
      refine wp_ret ?_
      refine c_ret (vs := [(Value.agg (arr8 32 (digTo hw2 32)).toArray)]) (rs := [.cell 2 24]) hT rfl (.agg rfl Tryd.ty24 (hL.rd 4 rfl 0 (ds := arr8 32 (digTo hw2 32)) rfl) rfl .nil) ?_
      refine ⟨?_, hL.drop⟩
      have hw := hok2.words
      simp only [packed]
      rw [digTo_all, hw]; rfl
end Go.Proofs.YtcaffacganffjaaDoor
