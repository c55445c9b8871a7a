/- The walks of a part of the program: GCommon. Printed by a program of the prover. The walks of a part of the program: GChk1. Printed by a program of the prover. The walks of a part of the program: GChk2. Printed by a program of the prover. -/
import Derived.Test.YtcaffacganffjaaDoorM2
import Derived.Test.YtcaffacganffjaaDoorM6
import Derived.Test.YtcaffacganffjaaDoorM5
import Derived.Test.YtcaffacganffjaaDoorM11
import Derived.Test.YtcaffacganffjaaDoorM9

section
namespace Go.Proofs.YtcaffacganffjaaDoor
open Go Go.Vg


set_option maxRecDepth 20000 in
set_option maxHeartbeats 1000000 in
theorem Len8_spec (x : UInt8) (w0 : World) :
    Calls Tryd.prog 28 #[(v8 x)] w0 fun e w' => e = .returned (vI ((lenN x.toNat : Nat) : Int)) ∧ Ext w0 w' := by
  refine c_enter (n := 6) (args := [(v8 x)]) Tryd.func28 rfl rfl (Nat.le_of_ble_eq_true rfl) rfl (fun a hT => ?_)
  simp only [List.zipIdx_cons, List.zipIdx_nil, List.map_cons, List.map_nil, Nat.reduceAdd] at hT
  have hL := Vg.Loc.refl [] w0
  refine c_seq ?_
  refine c_region ?_
  refine l_q hT (q_assign hT rfl) rfl rfl (by decide) ?_; clear hT; intro a hT
  refine l_end ?_
  refine then_norm ?_
  refine c_seq ?_
  refine c_region ?_
  refine l_q hT (q_move hT rfl) rfl rfl (by decide) ?_; clear hT; intro a hT
  refine l_q hT (q_index_str (s := lenTab) (u := UInt8.ofNat (lenN x.toNat)) hT rfl rfl Tryd.underlying9 (by omega) (by simpa using lenTab_get x)) rfl rfl (by decide) ?_; clear hT; intro a hT
  refine l_q hT ((q_conv_8_i hT rfl Tryd.underlying5 Tryd.underlying3).v (v := (vI ((lenN x.toNat : Nat) : Int))) (by rw [lenN_cast])) rfl rfl (by decide) ?_; clear hT; intro a hT
  refine l_q hT (q_assign hT rfl) rfl rfl (by decide) ?_; clear hT; intro a hT
  refine l_end ?_
  refine then_norm ?_
  refine wp_ret ?_
  refine c_ret (vs := [(vI ((lenN x.toNat : Nat) : Int))]) (rs := [.tmp 2]) hT rfl (.tmp rfl .nil) ?_
  exact ⟨rfl, hL.drop⟩

set_option maxRecDepth 20000 in
set_option maxHeartbeats 1000000 in
theorem Lz8_spec (x : UInt8) (w0 : World) :
    Calls Tryd.prog 17 #[(v8 x)] w0 fun e w' => e = .returned (vI ((8 - lenN x.toNat : Nat) : Int)) ∧ Ext w0 w' := by
  refine c_enter (n := 6) (args := [(v8 x)]) Tryd.func17 rfl rfl (Nat.le_of_ble_eq_true rfl) rfl (fun a hT => ?_)
  simp only [List.zipIdx_cons, List.zipIdx_nil, List.map_cons, List.map_nil, Nat.reduceAdd] at hT
  have hL := Vg.Loc.refl [] w0
  have hl := lenN_le x.toNat
  refine c_seq ?_
  refine c_region ?_
  refine l_q hT (q_assign hT rfl) rfl rfl (by decide) ?_; clear hT; intro a hT
  refine l_end ?_
  refine then_norm ?_
  refine c_seq ?_
  refine c_region ?_
  refine l_q hT (q_move hT rfl) rfl rfl (by decide) ?_; clear hT; intro a hT
  refine l_do rfl ?_
  refine w_callT (xs := [.tmp 3]) hT rfl (vs := [(v8 x)]) rfl (args := #[(v8 x)]) rfl Tryd.func28 rfl rfl (by decide) ((Len8_spec (x) _).mono ?_)
  rintro e w1 ⟨rfl, hX⟩
  refine ⟨_, rfl, ?_⟩; clear hT; intro a hT; replace hT : Tm 6 a ((4, (vI ((lenN (x).toNat : Nat) : Int))) :: _) := hT
  replace hL := hL.ext hX
  refine l_q hT ((q_subI hT rfl rfl (r := 8 - ((lenN (x).toNat : Nat) : Int)) rfl (by omega) (by omega)).v (v := (vI ((8 - lenN x.toNat : Nat) : Int))) (by congr 1; omega)) rfl rfl (by decide) ?_; clear hT; intro a hT
  refine l_q hT (q_assign hT rfl) rfl rfl (by decide) ?_; clear hT; intro a hT
  refine l_end ?_
  refine then_norm ?_
  refine wp_ret ?_
  refine c_ret (vs := [(vI ((8 - lenN x.toNat : Nat) : Int))]) (rs := [.tmp 2]) hT rfl (.tmp rfl .nil) ?_
  exact ⟨rfl, hL.drop⟩

set_option maxRecDepth 20000 in
set_option maxHeartbeats 1000000 in
theorem Common_spec (x y : Dig) (w0 : World) :
    Calls Tryd.prog 7 #[(Value.agg (digC x).toArray), (Value.agg (digC y).toArray)] w0 fun e w' => e = .returned (vI ((common x y : Nat) : Int)) ∧ Ext w0 w' := by
  refine c_enter (n := 25) (args := [(Value.agg (digC x).toArray), (Value.agg (digC y).toArray)]) Tryd.func7 rfl rfl (Nat.le_of_ble_eq_true rfl) rfl (fun a hT => ?_)
  simp only [List.zipIdx_cons, List.zipIdx_nil, List.map_cons, List.map_nil, Nat.reduceAdd] at hT
  have hL := Vg.Loc.refl [] w0
  refine c_seq ?_
  refine c_region ?_
  refine l_do rfl ?_
  refine w_box hT hL (by decide) rfl (c := digC x) rfl ?_; clear hT hL; intro b1 a w1 hT hL hE hB
  refine l_do rfl ?_
  refine w_box hT hL (by decide) rfl (c := digC y) rfl ?_; clear hT hL; intro b2 a w2 hT hL hE hB
  refine l_q hT (q_assign hT rfl) rfl rfl (by decide) ?_; clear hT; intro a hT
  refine l_end ?_
  refine then_norm ?_
  refine c_seq ?_
  refine c_seq ?_
  refine c_region ?_
  refine l_q hT (q_move hT rfl) rfl rfl (by decide) ?_; clear hT; intro a hT
  refine l_end ?_
  refine then_norm ?_
  refine wp_block ?_
  refine c_loop (fun mz ac wz => ∃ t : Nat, mz = 32 - t ∧ t ≤ 32 ∧ (∀ i, i < t → x.get i = y.get i) ∧ Tm 25 ac [(2, (vp b1 0)), (3, (vp b2 0)), (4, (vI 0)), (7, (vI (t : Int)))] ∧ Vg.Loc [] w0 wz [[(b2, ob (digC y) 24)], [(b1, ob (digC x) 24)]]) id 32 ?_ ?_
  · exact ⟨0, rfl, by omega, fun i h1 => by omega, hT.keep [2, 3, 4, 7] rfl, hL⟩
  clear hT hL
  rintro mz a w3 ⟨t, rfl, ht, heq, hT, hL⟩
  refine c_seq ?_
  refine c_region ?_
  refine l_q hT (q_lss hT rfl rfl) rfl rfl (by decide) ?_; clear hT; intro a hT
  refine l_end ?_
  refine then_norm ?_
  refine c_seq ?_
  refine c_if hT rfl (fun hc1 => ?_) (fun hc1 => ?_)
  · skip
    have hc1 := of_decide_eq_true hc1
    refine wp_skip ?_
    refine then_norm ?_
    refine c_seq ?_
    refine wp_block ?_
    refine c_seq ?_
    refine c_region ?_
    refine l_q hT (q_move hT rfl) rfl rfl (by decide) ?_; clear hT; intro a hT
    refine l_q hT (q_assign hT rfl) rfl rfl (by decide) ?_; clear hT; intro a hT
    refine l_end ?_
    refine then_norm ?_
    refine c_seq ?_
    refine d_start' hL #[false, false, false, false, false, false, false, false] [] rfl rfl rfl ?_; clear hL; intro w4 hL hE; have hR := hL; have hS := Ext.refl w4
    refine d_pure (i := 0) hT #[true, false, false, false, false, false, false, false] rfl (by kernel_rfl) rfl rfl (by decide) (fun _ _ _ h => h) (fun _ => q_move hT rfl) ?_; clear hT; intro a hT
    refine d_pure (i := 1) hT #[true, true, false, false, false, false, false, false] rfl (by kernel_rfl) rfl rfl (by decide) (fun _ _ _ h => h) (fun _ => (q_indexAddr_arr hT rfl rfl Tryd.arr24 (by omega) (by omega)).v (v := vp b1 (0 + t)) (by simp)) ?_; clear hT; intro a hT
    refine d_pure (i := 3) hT #[true, true, false, true, false, false, false, false] rfl (by kernel_rfl) rfl rfl (by decide) (fun _ _ _ h => h) (fun _ => q_move hT rfl) ?_; clear hT; intro a hT
    refine d_pure (i := 4) hT #[true, true, false, true, true, false, false, false] rfl (by kernel_rfl) rfl rfl (by decide) (fun _ _ _ h => h) (fun _ => (q_indexAddr_arr hT rfl rfl Tryd.arr24 (by omega) (by omega)).v (v := vp b2 (0 + t)) (by simp)) ?_; clear hT; intro a hT
    refine d_take (i := 2) hT #[true, true, true, true, true, false, false, false] rfl (by kernel_rfl) rfl rfl (by decide) (fun _ _ _ h => h) (fun _ hs => q_load hT rfl Tryd.ty5 (Rd.ext ((hR.rd 1 rfl 0 (ds := digC x) rfl).dig (i := t) (by omega)) hs)) hS ?_; clear hT; intro a hT
    refine d_take (i := 5) hT #[true, true, true, true, true, true, false, false] rfl (by kernel_rfl) rfl rfl (by decide) (fun _ _ _ h => h) (fun _ hs => q_load hT rfl Tryd.ty5 (Rd.ext ((hR.rd 0 rfl 0 (ds := digC y) rfl).dig (i := t) (by omega)) hs)) hS ?_; clear hT; intro a hT
    refine d_pure (i := 6) hT #[true, true, true, true, true, true, true, false] rfl (by kernel_rfl) rfl rfl (by decide) (fun _ _ _ h => h) (fun _ => q_xor8 (u := x.get t) (v := y.get t) hT rfl rfl) ?_; clear hT; intro a hT
    refine d_pure (i := 7) hT #[true, true, true, true, true, true, true, true] rfl (by kernel_rfl) rfl rfl (by decide) (fun _ _ _ h => h) (fun _ => q_assign hT rfl) ?_; clear hT; intro a hT
    refine d_done (by kernel_rfl) ?_; clear hR hS
    refine then_norm ?_
    refine c_seq ?_
    refine c_region ?_
    refine l_q hT (q_move hT rfl) rfl rfl (by decide) ?_; clear hT; intro a hT
    refine l_q hT (q_ne8 (u := (x.get t) ^^^ (y.get t)) (v := 0) hT rfl rfl) rfl rfl (by decide) ?_; clear hT; intro a hT
    refine l_end ?_
    refine then_norm ?_
    refine c_if hT rfl (fun hc2 => ?_) (fun hc2 => ?_)
    · skip
      have hc2 := of_decide_eq_true hc2
      have hl8 := lenN_le ((x.get t) ^^^ (y.get t)).toNat
      refine c_seq ?_
      refine c_region ?_
      refine l_q hT (q_move hT rfl) rfl rfl (by decide) ?_; clear hT; intro a hT
      refine l_q hT (q_mulI hT rfl rfl (r := 8 * (t : Int)) rfl (by omega) (by omega)) rfl rfl (by decide) ?_; clear hT; intro a hT
      refine l_q hT (q_move hT rfl) rfl rfl (by decide) ?_; clear hT; intro a hT
      refine l_do rfl ?_
      refine w_callT (xs := [.tmp 21]) hT rfl (vs := [(v8 ((x.get t) ^^^ (y.get t)))]) rfl (args := #[(v8 ((x.get t) ^^^ (y.get t)))]) rfl Tryd.func17 rfl rfl (by decide) ((Lz8_spec ((x.get t) ^^^ (y.get t)) _).mono ?_)
      rintro e w5 ⟨rfl, hX⟩
      refine ⟨_, rfl, ?_⟩; clear hT; intro a hT; replace hT : Tm 25 a ((22, (vI ((8 - lenN ((x.get t) ^^^ (y.get t)).toNat : Nat) : Int))) :: _) := hT
      replace hL := hL.ext hX
      refine l_q hT (q_addI hT rfl rfl (r := (8 * (t : Int)) + ((8 - lenN ((x.get t) ^^^ (y.get t)).toNat : Nat) : Int)) rfl (by omega) (by omega)) rfl rfl (by decide) ?_; clear hT; intro a hT
      refine l_q hT (q_assign hT rfl) rfl rfl (by decide) ?_; clear hT; intro a hT
      refine l_end ?_
      refine then_norm ?_
      refine wp_ret ?_
      refine blk_ret ?_
      refine then_ret ?_
      refine then_ret ?_
      refine blk_ret ?_
      refine then_ret ?_
      refine c_ret (vs := [(vI ((8 * (t : Int)) + ((8 - lenN ((x.get t) ^^^ (y.get t)).toNat : Nat) : Int)))]) (rs := [.tmp 4]) hT rfl (.tmp rfl .nil) ?_
      have hc := (common_byte (a := x) (b := y) (t := t) (by omega) heq (by assumption)).1.is; refine ⟨?_, hL.drop⟩; rw [hc]; simp only [packed]; congr 2
    · skip
      have hc2 := of_decide_eq_false hc2
      have hl8 := lenN_le ((x.get t) ^^^ (y.get t)).toNat
      refine wp_skip ?_
      refine blk_norm ?_
      refine then_norm ?_
      refine c_region ?_
      refine l_q hT (q_addI hT rfl rfl (r := (t : Int) + 1) rfl (by omega) (by omega)) rfl rfl (by decide) ?_; clear hT; intro a hT
      refine l_q hT (q_move hT rfl) rfl rfl (by decide) ?_; clear hT; intro a hT
      refine l_end ?_
      refine then_norm ?_
      have heq2 : ∀ i, i < t + 1 → x.get i = y.get i := by
        intro i h1
        rcases Nat.lt_or_ge i t with q | q
        · exact heq i q
        · obtain rfl : i = t := by omega
          exact xor_zero (Classical.not_not.1 (by assumption))
      exact ⟨_, ⟨t + 1, rfl, by omega, heq2, hT.keep [2, 3, 4, 7] rfl, hL⟩, by simp only [id]; omega⟩
  · skip
    have hc1 := of_decide_eq_false hc1
    refine wp_exit ?_
    refine then_exit ?_
    refine then_exit ?_
    refine blk_exit ?_
    refine then_norm ?_
    refine c_seq ?_
    refine c_region ?_
    refine l_q hT (q_assign hT rfl) rfl rfl (by decide) ?_; clear hT; intro a hT
    refine l_end ?_
    refine then_norm ?_
    refine wp_ret ?_
    refine c_ret (vs := [(vI 256)]) (rs := [.tmp 4]) hT rfl (.tmp rfl .nil) ?_
    have hc := (common_same (a := x) (b := y) (fun i hi => heq i (by omega))).is; refine ⟨?_, hL.drop⟩; rw [hc]; rfl
end Go.Proofs.YtcaffacganffjaaDoor
end

section
namespace Go.Proofs.YtcaffacganffjaaDoor
open Go Go.Vg


set_option maxRecDepth 20000 in
set_option maxHeartbeats 1000000 in
theorem pbytes_spec (mark : UInt8) (ds : List Dig) (p : Option Addr) (len cap : Nat) (hbig : len < 100000) (w0 : World) (hsl : SlT w0 p len 32 digC Dig.zero ds) :
    Calls Tryd.prog 52 #[(v8 mark), (Value.slice p len cap)] w0 fun e w' => ∃ p' n' cap' c, e = .returned (.slice p' n' cap') ∧ Vg.Loc [] w0 w' [c] ∧ OwnB 5 p' n' cap' (mark :: catD ds) c := by
  refine c_enter (n := 21) (args := [(v8 mark), (Value.slice p len cap)]) Tryd.func52 rfl rfl (Nat.le_of_ble_eq_true rfl) rfl (fun a hT => ?_)
  simp only [List.zipIdx_cons, List.zipIdx_nil, List.map_cons, List.map_nil, Nat.reduceAdd] at hT
  have hL := Vg.Loc.refl [] w0
  have hlen : ds.length = len := hsl.1
  refine c_seq ?_
  refine c_region ?_
  refine l_q hT (q_assign hT rfl) rfl rfl (by decide) ?_; clear hT; intro a hT
  refine l_end ?_
  refine then_norm ?_
  refine c_seq ?_
  refine c_region ?_
  refine l_q hT (q_move hT rfl) rfl rfl (by decide) ?_; clear hT; intro a hT
  refine l_do rfl ?_
  refine w_buildSlice (e := 5) (ps := [(0, .tmp 8)]) (pv := [(0, (v8 mark))]) (c := [(v8 mark)]) hT hL (by decide) rfl (fun _ => by kernel_rfl) ?_; clear hT hL; intro b1 a w1 hT hL hE hB
  refine l_q hT (q_assign hT rfl) rfl rfl (by decide) ?_; clear hT; intro a hT
  refine l_end ?_
  refine then_norm ?_
  refine c_seq ?_
  refine c_seq ?_
  refine c_region ?_
  refine l_q hT (q_move hT rfl) rfl rfl (by decide) ?_; clear hT; intro a hT
  refine l_q hT (q_len_slice hT rfl Tryd.underlying27) rfl rfl (by decide) ?_; clear hT; intro a hT
  refine l_q hT (q_move hT rfl) rfl rfl (by decide) ?_; clear hT; intro a hT
  refine l_end ?_
  refine then_norm ?_
  refine wp_block ?_
  have hlit1 : OwnB 5 (some ⟨b1, 0, none⟩) 1 1 [mark] [(b1, ob [(v8 mark)] 5)] := OwnE.lit rfl (Nat.le_of_ble_eq_true rfl)
  have hz0 := hlit1
  refine c_loop (fun mz a wz => ∃ (t : Nat) (p0 : Option Addr) (n0 cp0 : Nat) (c0 : Chunk), mz = len - t ∧ t ≤ len ∧ n0 = 1 + 32 * t ∧ OwnB 5 p0 n0 cp0 ([mark] ++ catD (ds.take t)) c0 ∧ Tm 21 a [(5, (Value.slice p0 n0 cp0)), (10, (Value.slice p len cap)), (11, (vI (len : Int))), (12, (vI (t : Int)))] ∧ Vg.Loc [] w0 wz [c0]) id len ?_ ?_
  · exact ⟨0, _, _, _, _, rfl, by omega, by omega, by simpa [catD] using hz0, hT.keep [5, 10, 11, 12] rfl, hL⟩
  clear hT hL
  rintro mz a w2 ⟨t, p0, n0, cp0, c0, rfl, ht, hn0, hz, hT, hL⟩
  refine c_seq ?_
  refine c_region ?_
  refine l_q hT (q_lss hT rfl rfl) rfl rfl (by decide) ?_; clear hT; intro a hT
  refine l_end ?_
  refine then_norm ?_
  refine c_seq ?_
  refine c_if hT rfl (fun hc1 => ?_) (fun hc1 => ?_)
  · skip
    have hc1 := of_decide_eq_true hc1
    refine wp_skip ?_
    refine then_norm ?_
    refine c_seq ?_
    refine wp_block ?_
    refine c_seq ?_
    refine c_region ?_
    obtain ⟨sb1, so1, hp1, hrd1⟩ := (hsl).2 (by omega)
    refine l_q hT (q_indexAddr (b := sb1) (off := so1) (len := len) (cap := cap) hT (by rw [← hp1]; rfl) rfl Tryd.sli27 (by omega) (by omega)) rfl rfl (by decide) ?_; clear hT; intro a hT
    refine l_q hT (q_load_agg hT rfl Tryd.ty24 (Rd.loc (hrd1 t (by omega)) hL (by simp)) rfl) rfl rfl (by decide) ?_; clear hT; intro a hT
    refine l_do rfl ?_
    refine w_alloc hT hL (by decide) Tryd.ty24 ?_; clear hT hL; intro b2 a w3 hT hL hE hB
    refine l_do rfl ?_
    refine w_store hT hL 0 (c := digC Dig.zero) rfl rfl Tryd.ty24 rfl (vs := digC (ds.getD t Dig.zero)) rfl rfl (by first | decide | (simp [arr32_len, arr8_len, digC_len]; done) | (simp [arr32_len, arr8_len, digC_len]; omega)) rfl (c' := digC (ds.getD t Dig.zero)) rfl ?_; clear hL; intro w4 hL hE
    replace hL : Vg.Loc [] w0 w4 ([[(b2, ob (digC (ds.getD t Dig.zero)) 24)], c0]) := hL
    refine l_end ?_
    refine then_norm ?_
    refine c_region ?_
    refine l_q hT (q_move hT rfl) rfl rfl (by decide) ?_; clear hT; intro a hT
    refine l_q hT (q_slice_arr hT rfl Tryd.arr24 (by omega)) rfl rfl (by decide) ?_; clear hT; intro a hT
    refine l_do rfl ?_
    have hsr1 := ((SlB.dig (hL.rd 0 rfl 0 (ds := digC (ds.getD t Dig.zero)) rfl))).src
    refine w_append hT hL (by decide) 1 rfl rfl rfl Tryd.app73 (by decide) rfl hz.2 hsr1 (by omega) (by simp only [maxLen]; omega) ?_; clear hT hL; intro p1 cap1 ck1 a w5 how1 hT hL
    replace hL : Vg.Loc [] w0 w5 ([[(b2, ob (digC (ds.getD t Dig.zero)) 24)], ck1]) := hL
    have hoe1 := OwnE.more hz (l' := (ds.getD t Dig.zero).l) (Dig.h _) how1
    refine l_q hT (q_assign hT rfl) rfl rfl (by decide) ?_; clear hT; intro a hT
    refine l_end ?_
    refine blk_norm ?_
    refine then_norm ?_
    refine c_region ?_
    refine l_q hT (q_addI hT rfl rfl (r := (t : Int) + 1) rfl (by omega) (by omega)) rfl rfl (by decide) ?_; clear hT; intro a hT
    refine l_q hT (q_move hT rfl) rfl rfl (by decide) ?_; clear hT; intro a hT
    refine l_end ?_
    refine then_norm ?_
    replace hL : Vg.Loc [] w0 w5 ([ck1, [(b2, ob (digC (ds.getD t Dig.zero)) 24)]]) := hL.front 1 rfl rfl
    replace hL : Vg.Loc [] w0 w5 ([ck1]) := hL.sub (.cons_cons _ (.cons _ .slnil))
    have hcd := catD_snoc ds t (by omega)
    exact ⟨_, ⟨t + 1, _, _, _, _, rfl, by omega, by omega, by rw [hcd, ← List.append_assoc]; exact hoe1, hT.keep [5, 10, 11, 12] rfl, hL⟩, by simp only [id]; omega⟩
  · skip
    have hc1 := of_decide_eq_false hc1
    obtain rfl : t = len := by omega
    have hf : ds.take t = ds := List.take_of_length_le (by omega)
    rw [hf] at hz
    refine wp_exit ?_
    refine then_exit ?_
    refine then_exit ?_
    refine blk_exit ?_
    refine then_norm ?_
    refine c_seq ?_
    refine c_region ?_
    refine l_q hT (q_move hT rfl) rfl rfl (by decide) ?_; clear hT; intro a hT
    refine l_q hT (q_assign hT rfl) rfl rfl (by decide) ?_; clear hT; intro a hT
    refine l_end ?_
    refine then_norm ?_
    refine wp_ret ?_
    refine c_ret (vs := [(Value.slice p0 n0 cp0)]) (rs := [.tmp 4]) hT rfl (.tmp rfl .nil) ?_
    exact ⟨_, _, _, _, rfl, hL, hz⟩

set_option maxRecDepth 20000 in
set_option maxHeartbeats 1000000 in
theorem start_spec (s : Said) (q : Option Addr) (nd cq : Nat) (w0 : World) :
    Calls Tryd.prog 50 #[(Value.agg ([(vI s.w)] ++ (digC s.p ++ ([(Value.bool s.pr)] ++ (digC s.v ++ ([(Value.slice q nd cq), (Value.bool s.o)] ++ (digC s.ox ++ (digC s.ov))))))).toArray)] w0 fun e w' => ∃ p' n' cap' c, e = .returned (.slice p' n' cap') ∧ Vg.Loc [] w0 w' [c] ∧ OwnB 5 p' n' cap' s.start c := by
  refine c_enter (n := 27) (args := [(Value.agg ([(vI s.w)] ++ (digC s.p ++ ([(Value.bool s.pr)] ++ (digC s.v ++ ([(Value.slice q nd cq), (Value.bool s.o)] ++ (digC s.ox ++ (digC s.ov))))))).toArray)]) Tryd.func50 rfl rfl (Nat.le_of_ble_eq_true rfl) rfl (fun a hT => ?_)
  simp only [List.zipIdx_cons, List.zipIdx_nil, List.map_cons, List.map_nil, Nat.reduceAdd] at hT
  have hL := Vg.Loc.refl [] w0
  refine c_seq ?_
  refine c_region ?_
  refine l_do rfl ?_
  refine w_box hT hL (by decide) rfl (c := [(vI s.w)] ++ (digC s.p ++ ([(Value.bool s.pr)] ++ (digC s.v ++ ([(Value.slice q nd cq), (Value.bool s.o)] ++ (digC s.ox ++ (digC s.ov))))))) rfl ?_; clear hT hL; intro b1 a w1 hT hL hE hB
  refine l_q hT (q_assign hT rfl) rfl rfl (by decide) ?_; clear hT; intro a hT
  refine l_end ?_
  refine then_norm ?_
  refine c_seq ?_
  refine wp_block ?_
  refine c_seq ?_
  refine c_region ?_
  refine l_q hT (q_fieldAddr hT rfl Tryd.fld54_2 rfl) rfl rfl (by decide) ?_; clear hT; intro a hT
  refine l_q hT (q_fieldAddr hT rfl Tryd.fld26_0 rfl) rfl rfl (by decide) ?_; clear hT; intro a hT
  refine l_q hT (q_load hT rfl Tryd.ty4 (hL.rd 0 rfl 33 (ds := [(Value.bool s.pr)]) rfl)) rfl rfl (by decide) ?_; clear hT; intro a hT
  refine l_q hT (q_assign hT rfl) rfl rfl (by decide) ?_; clear hT; intro a hT
  refine l_end ?_
  refine then_norm ?_
  refine c_if hT rfl (fun hc1 => ?_) (fun hc1 => ?_)
  · skip
    refine c_seq ?_
    refine c_region ?_
    refine l_q hT (q_fieldAddr hT rfl Tryd.fld54_1 rfl) rfl rfl (by decide) ?_; clear hT; intro a hT
    refine l_q hT (q_load_agg hT rfl Tryd.ty24 (hL.rd 0 rfl 1 (ds := digC s.p) rfl) rfl) rfl rfl (by decide) ?_; clear hT; intro a hT
    refine l_q hT (q_fieldAddr hT rfl Tryd.fld54_2 rfl) rfl rfl (by decide) ?_; clear hT; intro a hT
    refine l_q hT (q_fieldAddr hT rfl Tryd.fld26_1 rfl) rfl rfl (by decide) ?_; clear hT; intro a hT
    refine l_q hT (q_load_agg hT rfl Tryd.ty24 (hL.rd 0 rfl 34 (ds := digC s.v) rfl) rfl) rfl rfl (by decide) ?_; clear hT; intro a hT
    refine l_do rfl ?_
    refine w_buildSlice (e := 24) (ps := [(0, .tmp 8), (1, .tmp 11)]) (pv := [(0, (Value.agg (digC s.p).toArray)), (1, (Value.agg (digC s.v).toArray))]) (c := digC s.p ++ (digC s.v)) hT hL (by decide) rfl (fun _ => by kernel_rfl) ?_; clear hT hL; intro b2 a w2 hT hL hE hB
    refine l_do rfl ?_
    refine w_callT (xs := [.const (.int .u8 0), .tmp 12]) hT rfl (vs := [(v8 0), (Value.slice (some ⟨b2, 0, none⟩) 2 2)]) rfl (args := #[(v8 0), (Value.slice (some ⟨b2, 0, none⟩) 2 2)]) rfl Tryd.func52 rfl rfl (by decide) ((pbytes_spec (0) [s.p, s.v] (some ⟨b2, 0, none⟩) 2 2 (by decide) _ (SlT.flat (d0 := Dig.zero) digC_len (hL.rd 0 rfl 0 (ds := ([s.p, s.v] : List Dig).flatMap digC) rfl))).mono ?_)
    rintro e w3 ⟨pb1, nb1, cpb1, cb1, rfl, hX, hb1⟩
    refine ⟨_, rfl, ?_⟩; clear hT; intro a hT; replace hT : Tm 27 a ((13, (Value.slice pb1 nb1 cpb1)) :: _) := hT
    replace hL : Vg.Loc [] w0 w3 ([cb1, [(b2, ob (digC s.p ++ (digC s.v)) 24)], [(b1, ob ([(vI s.w)] ++ (digC s.p ++ ([(Value.bool s.pr)] ++ (digC s.v ++ ([(Value.slice q nd cq), (Value.bool s.o)] ++ (digC s.ox ++ (digC s.ov))))))) 54)]]) := hL.exts hX
    have hn_hb1 := hb1.len
    refine l_q hT (q_assign hT rfl) rfl rfl (by decide) ?_; clear hT; intro a hT
    refine l_end ?_
    refine then_norm ?_
    refine wp_ret ?_
    refine blk_ret ?_
    refine then_ret ?_
    refine c_ret (vs := [(Value.slice pb1 nb1 cpb1)]) (rs := [.tmp 2]) hT rfl (.tmp rfl .nil) ?_
    replace hL : Vg.Loc [] w0 w3 ([cb1]) := hL.sub (.cons_cons _ (.cons _ (.cons _ .slnil)))
    have hs : s.start = (0 :: catD [s.p, s.v]) := by unfold Said.start; simp [*, catD]
    exact ⟨_, _, _, _, rfl, hL, hs ▸ hb1⟩
  · skip
    refine c_seq ?_
    refine c_region ?_
    refine l_q hT (q_fieldAddr hT rfl Tryd.fld54_3 rfl) rfl rfl (by decide) ?_; clear hT; intro a hT
    refine l_q hT (q_fieldAddr hT rfl Tryd.fld29_1 rfl) rfl rfl (by decide) ?_; clear hT; intro a hT
    refine l_q hT (q_load hT rfl Tryd.ty4 (hL.rd 0 rfl 67 (ds := [(Value.bool s.o)]) rfl)) rfl rfl (by decide) ?_; clear hT; intro a hT
    refine l_q hT (q_assign hT rfl) rfl rfl (by decide) ?_; clear hT; intro a hT
    refine l_end ?_
    refine then_norm ?_
    refine c_if hT rfl (fun hc2 => ?_) (fun hc2 => ?_)
    · skip
      refine c_seq ?_
      refine c_region ?_
      refine l_q hT (q_fieldAddr hT rfl Tryd.fld54_3 rfl) rfl rfl (by decide) ?_; clear hT; intro a hT
      refine l_q hT (q_fieldAddr hT rfl Tryd.fld29_2 rfl) rfl rfl (by decide) ?_; clear hT; intro a hT
      refine l_q hT (q_load_agg hT rfl Tryd.ty24 (hL.rd 0 rfl 68 (ds := digC s.ox) rfl) rfl) rfl rfl (by decide) ?_; clear hT; intro a hT
      refine l_q hT (q_fieldAddr hT rfl Tryd.fld54_3 rfl) rfl rfl (by decide) ?_; clear hT; intro a hT
      refine l_q hT (q_fieldAddr hT rfl Tryd.fld29_3 rfl) rfl rfl (by decide) ?_; clear hT; intro a hT
      refine l_q hT (q_load_agg hT rfl Tryd.ty24 (hL.rd 0 rfl 100 (ds := digC s.ov) rfl) rfl) rfl rfl (by decide) ?_; clear hT; intro a hT
      refine l_do rfl ?_
      refine w_buildSlice (e := 24) (ps := [(0, .tmp 20), (1, .tmp 23)]) (pv := [(0, (Value.agg (digC s.ox).toArray)), (1, (Value.agg (digC s.ov).toArray))]) (c := digC s.ox ++ (digC s.ov)) hT hL (by decide) rfl (fun _ => by kernel_rfl) ?_; clear hT hL; intro b3 a w4 hT hL hE hB
      refine l_do rfl ?_
      refine w_callT (xs := [.const (.int .u8 0), .tmp 24]) hT rfl (vs := [(v8 0), (Value.slice (some ⟨b3, 0, none⟩) 2 2)]) rfl (args := #[(v8 0), (Value.slice (some ⟨b3, 0, none⟩) 2 2)]) rfl Tryd.func52 rfl rfl (by decide) ((pbytes_spec (0) [s.ox, s.ov] (some ⟨b3, 0, none⟩) 2 2 (by decide) _ (SlT.flat (d0 := Dig.zero) digC_len (hL.rd 0 rfl 0 (ds := ([s.ox, s.ov] : List Dig).flatMap digC) rfl))).mono ?_)
      rintro e w5 ⟨pb2, nb2, cpb2, cb2, rfl, hX, hb2⟩
      refine ⟨_, rfl, ?_⟩; clear hT; intro a hT; replace hT : Tm 27 a ((25, (Value.slice pb2 nb2 cpb2)) :: _) := hT
      replace hL : Vg.Loc [] w0 w5 ([cb2, [(b3, ob (digC s.ox ++ (digC s.ov)) 24)], [(b1, ob ([(vI s.w)] ++ (digC s.p ++ ([(Value.bool s.pr)] ++ (digC s.v ++ ([(Value.slice q nd cq), (Value.bool s.o)] ++ (digC s.ox ++ (digC s.ov))))))) 54)]]) := hL.exts hX
      have hn_hb2 := hb2.len
      refine l_q hT (q_assign hT rfl) rfl rfl (by decide) ?_; clear hT; intro a hT
      refine l_end ?_
      refine then_norm ?_
      refine wp_ret ?_
      refine blk_ret ?_
      refine then_ret ?_
      refine c_ret (vs := [(Value.slice pb2 nb2 cpb2)]) (rs := [.tmp 2]) hT rfl (.tmp rfl .nil) ?_
      replace hL : Vg.Loc [] w0 w5 ([cb2]) := hL.sub (.cons_cons _ (.cons _ (.cons _ .slnil)))
      have hs : s.start = (0 :: catD [s.ox, s.ov]) := by unfold Said.start; simp [*, catD]
      exact ⟨_, _, _, _, rfl, hL, hs ▸ hb2⟩
    · skip
      refine wp_skip ?_
      refine blk_norm ?_
      refine then_norm ?_
      refine c_seq ?_
      refine c_region ?_
      refine l_do rfl ?_
      refine w_callT (xs := [.const (.int .u8 2), .const (.slice none 0 0)]) hT rfl (vs := [(v8 2), (Value.slice none 0 0)]) rfl (args := #[(v8 2), (Value.slice none 0 0)]) rfl Tryd.func52 rfl rfl (by decide) ((pbytes_spec (2) [] none 0 0 (by decide) _ SlT.nil).mono ?_)
      rintro e w6 ⟨pb3, nb3, cpb3, cb3, rfl, hX, hb3⟩
      refine ⟨_, rfl, ?_⟩; clear hT; intro a hT; replace hT : Tm 27 a ((26, (Value.slice pb3 nb3 cpb3)) :: _) := hT
      replace hL : Vg.Loc [] w0 w6 ([cb3, [(b1, ob ([(vI s.w)] ++ (digC s.p ++ ([(Value.bool s.pr)] ++ (digC s.v ++ ([(Value.slice q nd cq), (Value.bool s.o)] ++ (digC s.ox ++ (digC s.ov))))))) 54)]]) := hL.exts hX
      have hn_hb3 := hb3.len
      refine l_q hT (q_assign hT rfl) rfl rfl (by decide) ?_; clear hT; intro a hT
      refine l_end ?_
      refine then_norm ?_
      refine wp_ret ?_
      refine c_ret (vs := [(Value.slice pb3 nb3 cpb3)]) (rs := [.tmp 2]) hT rfl (.tmp rfl .nil) ?_
      replace hL : Vg.Loc [] w0 w6 ([cb3]) := hL.sub (.cons_cons _ (.cons _ .slnil))
      have hs : s.start = (2 :: catD []) := by unfold Said.start; simp [*, catD]
      exact ⟨_, _, _, _, rfl, hL, hs ▸ hb3⟩

set_option maxRecDepth 100000 in
set_option maxHeartbeats 4000000 in
theorem may_spec (s : Said) (q : Option Addr) (nd cq : Nat) (hnd : s.ds.length = nd) (w0 : World) :
    Calls Tryd.prog 34 #[(Value.agg ([(vI s.w)] ++ (digC s.p ++ ([(Value.bool s.pr)] ++ (digC s.v ++ ([(Value.slice q nd cq), (Value.bool s.o)] ++ (digC s.ox ++ (digC s.ov))))))).toArray)] w0 fun e w' => e = .returned (.bool s.may) ∧ Ext w0 w' := by
  refine c_enter (n := 60) (args := [(Value.agg ([(vI s.w)] ++ (digC s.p ++ ([(Value.bool s.pr)] ++ (digC s.v ++ ([(Value.slice q nd cq), (Value.bool s.o)] ++ (digC s.ox ++ (digC s.ov))))))).toArray)]) Tryd.func34 rfl rfl (Nat.le_of_ble_eq_true rfl) rfl (fun a hT => ?_)
  simp only [List.zipIdx_cons, List.zipIdx_nil, List.map_cons, List.map_nil, Nat.reduceAdd] at hT
  have hL := Vg.Loc.refl [] w0
  refine c_seq ?_
  refine c_region ?_
  refine l_do rfl ?_
  refine w_box hT hL (by decide) rfl (c := [(vI s.w)] ++ (digC s.p ++ ([(Value.bool s.pr)] ++ (digC s.v ++ ([(Value.slice q nd cq), (Value.bool s.o)] ++ (digC s.ox ++ (digC s.ov))))))) rfl ?_; clear hT hL; intro b1 a w1 hT hL hE hB
  refine l_q hT (q_assign hT rfl) rfl rfl (by decide) ?_; clear hT; intro a hT
  refine l_end ?_
  refine then_norm ?_
  refine c_seq ?_
  refine c_region ?_
  refine l_q hT (q_fieldAddr hT rfl Tryd.fld54_3 rfl) rfl rfl (by decide) ?_; clear hT; intro a hT
  refine l_q hT (q_load_agg hT rfl Tryd.ty29 (hL.rd 0 rfl 66 (ds := [(Value.slice q nd cq), (Value.bool s.o)] ++ (digC s.ox ++ (digC s.ov))) rfl) rfl) rfl rfl (by decide) ?_; clear hT; intro a hT
  refine l_do rfl ?_
  refine w_alloc hT hL (by decide) Tryd.ty29 ?_; clear hT hL; intro b2 a w2 hT hL hE hB
  refine l_do rfl ?_
  refine w_store hT hL 0 (c := [(Value.slice none 0 0), (Value.bool false)] ++ (digC Dig.zero ++ (digC Dig.zero))) rfl rfl Tryd.ty29 rfl (vs := [(Value.slice q nd cq), (Value.bool s.o)] ++ (digC s.ox ++ (digC s.ov))) rfl rfl (by first | decide | (simp [arr32_len, arr8_len, digC_len]; done) | (simp [arr32_len, arr8_len, digC_len]; omega)) rfl (c' := [(Value.slice q nd cq), (Value.bool s.o)] ++ (digC s.ox ++ (digC s.ov))) rfl ?_; clear hL; intro w3 hL hE
  replace hL : Vg.Loc [] w0 w3 ([[(b2, ob ([(Value.slice q nd cq), (Value.bool s.o)] ++ (digC s.ox ++ (digC s.ov))) 29)], [(b1, ob ([(vI s.w)] ++ (digC s.p ++ ([(Value.bool s.pr)] ++ (digC s.v ++ ([(Value.slice q nd cq), (Value.bool s.o)] ++ (digC s.ox ++ (digC s.ov))))))) 54)]]) := hL
  refine l_end ?_
  refine then_norm ?_
  refine c_seq ?_
  refine wp_block ?_
  refine c_seq ?_
  refine c_region ?_
  refine l_q hT (q_fieldAddr hT rfl Tryd.fld29_0 rfl) rfl rfl (by decide) ?_; clear hT; intro a hT
  refine l_q hT (q_load hT rfl Tryd.ty27 (hL.rd 0 rfl 0 (ds := [(Value.slice q nd cq)]) rfl)) rfl rfl (by decide) ?_; clear hT; intro a hT
  refine l_q hT (q_len_slice hT rfl Tryd.underlying27) rfl rfl (by decide) ?_; clear hT; intro a hT
  refine l_q hT (q_gtr hT rfl rfl) rfl rfl (by decide) ?_; clear hT; intro a hT
  refine l_q hT (q_move hT rfl) rfl rfl (by decide) ?_; clear hT; intro a hT
  rcases Bool.eq_false_or_eq_true (decide (256 < (nd : Int))) with hc1 | hc1
  · rw [hc1] at hT
    have hc1 := of_decide_eq_true hc1
    refine l_off hT rfl rfl rfl rfl rfl (by decide) ?_; clear hT; intro a hT
    refine l_off hT rfl rfl rfl rfl rfl (by decide) ?_; clear hT; intro a hT
    refine l_off hT rfl rfl rfl rfl rfl (by decide) ?_; clear hT; intro a hT
    refine l_off hT rfl rfl rfl rfl rfl (by decide) ?_; clear hT; intro a hT
    refine l_off hT rfl rfl rfl rfl rfl (by decide) ?_; clear hT; intro a hT
    refine l_off' hT rfl rfl rfl rfl rfl (by decide) ?_; clear hT; intro a hT
    refine l_off' hT rfl rfl rfl rfl rfl (by decide) ?_; clear hT; intro a hT
    refine l_off' hT rfl rfl rfl rfl rfl (by decide) ?_; clear hT; intro a hT
    refine l_off' hT rfl rfl rfl rfl rfl (by decide) ?_; clear hT; intro a hT
    refine l_off' hT rfl rfl rfl rfl rfl (by decide) ?_; clear hT; intro a hT
    refine l_off hT rfl rfl rfl rfl rfl (by decide) ?_; clear hT; intro a hT
    refine l_q hT ((q_pick hT rfl rfl rfl).v (v := (Value.bool true)) rfl) rfl rfl (by decide) ?_; clear hT; intro a hT
    refine l_q hT (q_assign hT rfl) rfl rfl (by decide) ?_; clear hT; intro a hT
    refine l_end ?_
    refine then_norm ?_
    refine c_true hT rfl rfl ?_
    refine c_seq ?_
    refine c_region ?_
    refine l_q hT (q_assign hT rfl) rfl rfl (by decide) ?_; clear hT; intro a hT
    refine l_end ?_
    refine then_norm ?_
    refine wp_ret ?_
    refine blk_ret ?_
    refine then_ret ?_
    refine c_ret (vs := [(Value.bool false)]) (rs := [.tmp 2]) hT rfl (.tmp rfl .nil) ?_
    refine ⟨?_, hL.drop⟩
    simp only [packed]; unfold Said.may; clear hL hT; simp_all <;> (intros; omega)
  · rw [hc1] at hT
    have hc1 := of_decide_eq_false hc1
    refine l_on hT rfl rfl rfl rfl (w_q hT (q_fieldAddr hT rfl Tryd.fld54_2 rfl) rfl (by decide) ?_); clear hT; intro a hT
    refine l_on hT rfl rfl rfl rfl (w_q hT (q_fieldAddr hT rfl Tryd.fld26_0 rfl) rfl (by decide) ?_); clear hT; intro a hT
    refine l_on hT rfl rfl rfl rfl (w_q hT (q_load hT rfl Tryd.ty4 (hL.rd 1 rfl 33 (ds := [(Value.bool s.pr)]) rfl)) rfl (by decide) ?_); clear hT; intro a hT
    refine l_on hT rfl rfl rfl rfl (w_q hT (q_not hT rfl) rfl (by decide) ?_); clear hT; intro a hT
    refine l_on hT rfl rfl rfl rfl (w_q hT (q_move hT rfl) rfl (by decide) ?_); clear hT; intro a hT
    rcases Bool.eq_false_or_eq_true (!s.pr) with hc2 | hc2
    · rw [hc2] at hT
      simp only [Bool.not_eq_true', Bool.not_eq_false'] at hc2
      refine l_on hT rfl rfl rfl rfl (w_q hT (q_fieldAddr hT rfl Tryd.fld54_2 rfl) rfl (by decide) ?_); clear hT; intro a hT
      refine l_on hT rfl rfl rfl rfl (w_q hT (q_fieldAddr hT rfl Tryd.fld26_1 rfl) rfl (by decide) ?_); clear hT; intro a hT
      refine l_on hT rfl rfl rfl rfl (w_q hT (q_load_agg hT rfl Tryd.ty24 (hL.rd 1 rfl 34 (ds := digC s.v) rfl) rfl) rfl (by decide) ?_); clear hT; intro a hT
      refine l_on hT rfl rfl rfl rfl (w_q hT (q_build (ps := []) (pv := []) (v := .agg (digC Dig.zero).toArray) hT rfl (fun _ => by kernel_rfl)) rfl (by decide) ?_); clear hT; intro a hT
      refine l_on hT rfl rfl rfl rfl (w_q hT (q_ne_agg hT rfl rfl Tryd.eqg24 (EqR.dig Tryd.arr24 Tryd.underlying5 s.v Dig.zero) (by decide)) rfl (by decide) ?_); clear hT; intro a hT
      refine l_on hT rfl rfl rfl rfl (w_q hT ((q_pick hT rfl rfl rfl).v (v := (Value.bool (!(decide (s.v = Dig.zero))))) rfl) rfl (by decide) ?_); clear hT; intro a hT
      refine l_q hT ((q_pick hT rfl rfl rfl).v (v := (Value.bool (!(decide (s.v = Dig.zero))))) rfl) rfl rfl (by decide) ?_; clear hT; intro a hT
      refine l_q hT (q_assign hT rfl) rfl rfl (by decide) ?_; clear hT; intro a hT
      refine l_end ?_
      refine then_norm ?_
      refine c_if hT rfl (fun hc3 => ?_) (fun hc3 => ?_)
      · skip
        simp only [Bool.not_eq_true', Bool.not_eq_false'] at hc3
        refine c_seq ?_
        refine c_region ?_
        refine l_q hT (q_assign hT rfl) rfl rfl (by decide) ?_; clear hT; intro a hT
        refine l_end ?_
        refine then_norm ?_
        refine wp_ret ?_
        refine blk_ret ?_
        refine then_ret ?_
        refine c_ret (vs := [(Value.bool false)]) (rs := [.tmp 2]) hT rfl (.tmp rfl .nil) ?_
        refine ⟨?_, hL.drop⟩
        simp only [packed]; unfold Said.may; clear hL hT; simp_all <;> (intros; omega)
      · skip
        simp only [Bool.not_eq_true', Bool.not_eq_false'] at hc3
        refine c_seq ?_
        refine c_region ?_
        refine l_q hT (q_fieldAddr hT rfl Tryd.fld29_1 rfl) rfl rfl (by decide) ?_; clear hT; intro a hT
        refine l_q hT (q_load hT rfl Tryd.ty4 (hL.rd 0 rfl 1 (ds := [(Value.bool s.o)]) rfl)) rfl rfl (by decide) ?_; clear hT; intro a hT
        refine l_q hT (q_not hT rfl) rfl rfl (by decide) ?_; clear hT; intro a hT
        refine l_q hT (q_assign hT rfl) rfl rfl (by decide) ?_; clear hT; intro a hT
        refine l_end ?_
        refine then_norm ?_
        refine c_if hT rfl (fun hc4 => ?_) (fun hc4 => ?_)
        · skip
          simp only [Bool.not_eq_true', Bool.not_eq_false'] at hc4
          refine c_seq ?_
          refine c_region ?_
          refine l_q hT (q_fieldAddr hT rfl Tryd.fld29_2 rfl) rfl rfl (by decide) ?_; clear hT; intro a hT
          refine l_q hT (q_load_agg hT rfl Tryd.ty24 (hL.rd 0 rfl 2 (ds := digC s.ox) rfl) rfl) rfl rfl (by decide) ?_; clear hT; intro a hT
          refine l_q hT (q_build (ps := []) (pv := []) (v := .agg (digC Dig.zero).toArray) hT rfl (fun _ => by kernel_rfl)) rfl rfl (by decide) ?_; clear hT; intro a hT
          refine l_q hT (q_eq_agg hT rfl rfl Tryd.eqg24 (EqR.dig Tryd.arr24 Tryd.underlying5 s.ox Dig.zero) (by decide)) rfl rfl (by decide) ?_; clear hT; intro a hT
          refine l_q hT (q_move hT rfl) rfl rfl (by decide) ?_; clear hT; intro a hT
          rcases Bool.eq_false_or_eq_true (decide (s.ox = Dig.zero)) with hc5 | hc5
          · rw [hc5] at hT
            have hc5 := of_decide_eq_true hc5
            refine l_on hT rfl rfl rfl rfl (w_q hT (q_fieldAddr hT rfl Tryd.fld29_3 rfl) rfl (by decide) ?_); clear hT; intro a hT
            refine l_on hT rfl rfl rfl rfl (w_q hT (q_load_agg hT rfl Tryd.ty24 (hL.rd 0 rfl 34 (ds := digC s.ov) rfl) rfl) rfl (by decide) ?_); clear hT; intro a hT
            refine l_on hT rfl rfl rfl rfl (w_q hT (q_build (ps := []) (pv := []) (v := .agg (digC Dig.zero).toArray) hT rfl (fun _ => by kernel_rfl)) rfl (by decide) ?_); clear hT; intro a hT
            refine l_on hT rfl rfl rfl rfl (w_q hT (q_eq_agg hT rfl rfl Tryd.eqg24 (EqR.dig Tryd.arr24 Tryd.underlying5 s.ov Dig.zero) (by decide)) rfl (by decide) ?_); clear hT; intro a hT
            refine l_q hT ((q_pick hT rfl rfl rfl).v (v := (Value.bool (decide (s.ov = Dig.zero)))) rfl) rfl rfl (by decide) ?_; clear hT; intro a hT
            refine l_q hT (q_assign hT rfl) rfl rfl (by decide) ?_; clear hT; intro a hT
            refine l_end ?_
            refine then_norm ?_
            refine wp_ret ?_
            refine blk_ret ?_
            refine then_ret ?_
            refine c_ret (vs := [(Value.bool (decide (s.ov = Dig.zero)))]) (rs := [.tmp 2]) hT rfl (.tmp rfl .nil) ?_
            refine ⟨?_, hL.drop⟩
            simp only [packed]; unfold Said.may; clear hL hT; simp_all <;> (intros; omega)
          · rw [hc5] at hT
            have hc5 := of_decide_eq_false hc5
            refine l_off hT rfl rfl rfl rfl rfl (by decide) ?_; clear hT; intro a hT
            refine l_off hT rfl rfl rfl rfl rfl (by decide) ?_; clear hT; intro a hT
            refine l_off hT rfl rfl rfl rfl rfl (by decide) ?_; clear hT; intro a hT
            refine l_off hT rfl rfl rfl rfl rfl (by decide) ?_; clear hT; intro a hT
            refine l_q hT ((q_pick hT rfl rfl rfl).v (v := (Value.bool false)) rfl) rfl rfl (by decide) ?_; clear hT; intro a hT
            refine l_q hT (q_assign hT rfl) rfl rfl (by decide) ?_; clear hT; intro a hT
            refine l_end ?_
            refine then_norm ?_
            refine wp_ret ?_
            refine blk_ret ?_
            refine then_ret ?_
            refine c_ret (vs := [(Value.bool false)]) (rs := [.tmp 2]) hT rfl (.tmp rfl .nil) ?_
            refine ⟨?_, hL.drop⟩
            simp only [packed]; unfold Said.may; clear hL hT; simp_all <;> (intros; omega)
        · skip
          simp only [Bool.not_eq_true', Bool.not_eq_false'] at hc4
          refine wp_skip ?_
          refine blk_norm ?_
          refine then_norm ?_
          refine c_seq ?_
          refine d_start' hL #[false, false, false, false, false, false, false, false, false, false, false, false, false, false, false, false, false, false, false, false, false, false, false] [] rfl rfl rfl ?_; clear hL; intro w4 hL hE; have hR := hL; have hS := Ext.refl w4
          refine d_pure (i := 0) hT #[true, false, false, false, false, false, false, false, false, false, false, false, false, false, false, false, false, false, false, false, false, false, false] rfl (by kernel_rfl) rfl rfl (by decide) (fun _ _ _ h => h) (fun _ => q_fieldAddr hT rfl Tryd.fld54_2 rfl) ?_; clear hT; intro a hT
          refine d_pure (i := 1) hT #[true, true, false, false, false, false, false, false, false, false, false, false, false, false, false, false, false, false, false, false, false, false, false] rfl (by kernel_rfl) rfl rfl (by decide) (fun _ _ _ h => h) (fun _ => q_fieldAddr hT rfl Tryd.fld26_0 rfl) ?_; clear hT; intro a hT
          refine d_take (i := 2) hT #[true, true, true, false, false, false, false, false, false, false, false, false, false, false, false, false, false, false, false, false, false, false, false] rfl (by kernel_rfl) rfl rfl (by decide) (fun _ _ _ h => h) (fun _ hs => q_load hT rfl Tryd.ty4 (Rd.ext (hR.rd 1 rfl 33 (ds := [(Value.bool s.pr)]) rfl) hs)) hS ?_; clear hT; intro a hT
          refine d_pure (i := 3) hT #[true, true, true, true, false, false, false, false, false, false, false, false, false, false, false, false, false, false, false, false, false, false, false] rfl (by kernel_rfl) rfl rfl (by decide) (fun _ _ _ h => h) (fun _ => q_not hT rfl) ?_; clear hT; intro a hT
          refine d_pure (i := 4) hT #[true, true, true, true, true, false, false, false, false, false, false, false, false, false, false, false, false, false, false, false, false, false, false] rfl (by kernel_rfl) rfl rfl (by decide) (fun _ _ _ h => h) (fun _ => q_move hT rfl) ?_; clear hT; intro a hT
          rcases Bool.eq_false_or_eq_true (!s.pr) with hc6 | hc6
          · rw [hc6] at hT
            simp only [Bool.not_eq_true', Bool.not_eq_false'] at hc6
            refine d_pure (i := 5) hT #[true, true, true, true, true, true, false, false, false, false, false, false, false, false, false, false, false, false, false, false, false, false, false] rfl (by kernel_rfl) rfl rfl (by decide) (fun _ _ _ h => h) (fun _ => q_fieldAddr hT rfl Tryd.fld29_2 rfl) ?_; clear hT; intro a hT
            refine d_pure (i := 7) hT #[true, true, true, true, true, true, false, true, false, false, false, false, false, false, false, false, false, false, false, false, false, false, false] rfl (by kernel_rfl) rfl rfl (by decide) (fun _ _ _ h => h) (fun _ => q_fieldAddr hT rfl Tryd.fld54_1 rfl) ?_; clear hT; intro a hT
            refine d_take (i := 6) hT #[true, true, true, true, true, true, true, true, false, false, false, false, false, false, false, false, false, false, false, false, false, false, false] rfl (by kernel_rfl) rfl rfl (by decide) (fun _ _ _ h => h) (fun _ hs => q_load_agg hT rfl Tryd.ty24 (Rd.ext (hR.rd 0 rfl 2 (ds := digC s.ox) rfl) hs) rfl) hS ?_; clear hT; intro a hT
            refine d_take (i := 8) hT #[true, true, true, true, true, true, true, true, true, false, false, false, false, false, false, false, false, false, false, false, false, false, false] rfl (by kernel_rfl) rfl rfl (by decide) (fun _ _ _ h => h) (fun _ hs => q_load_agg hT rfl Tryd.ty24 (Rd.ext (hR.rd 1 rfl 1 (ds := digC s.p) rfl) hs) rfl) hS ?_; clear hT; intro a hT
            refine d_pure (i := 9) hT #[true, true, true, true, true, true, true, true, true, true, false, false, false, false, false, false, false, false, false, false, false, false, false] rfl (by kernel_rfl) rfl rfl (by decide) (fun _ _ _ h => h) (fun _ => q_ne_agg hT rfl rfl Tryd.eqg24 (EqR.dig Tryd.arr24 Tryd.underlying5 s.ox s.p) (by decide)) ?_; clear hT; intro a hT
            refine d_pure (i := 10) hT #[true, true, true, true, true, true, true, true, true, true, true, false, false, false, false, false, false, false, false, false, false, false, false] rfl (by kernel_rfl) rfl rfl (by decide) (fun _ _ _ h => h) (fun _ => (q_pick hT rfl rfl rfl).v (v := (Value.bool (!(decide (s.ox = s.p))))) rfl) ?_; clear hT; intro a hT
            refine d_pure (i := 11) hT #[true, true, true, true, true, true, true, true, true, true, true, true, false, false, false, false, false, false, false, false, false, false, false] rfl (by kernel_rfl) rfl rfl (by decide) (fun _ _ _ h => h) (fun _ => q_move hT rfl) ?_; clear hT; intro a hT
            rcases Bool.eq_false_or_eq_true (!(decide (s.ox = s.p))) with hc7 | hc7
            · rw [hc7] at hT
              simp only [Bool.not_eq_true', Bool.not_eq_false'] at hc7
              refine d_pure (i := 12) hT #[true, true, true, true, true, true, true, true, true, true, true, true, true, false, false, false, false, false, false, false, false, false, false] rfl (by kernel_rfl) rfl rfl (by decide) (fun _ _ _ h => h) (fun _ => q_fieldAddr hT rfl Tryd.fld54_1 rfl) ?_; clear hT; intro a hT
              refine d_pure (i := 14) hT #[true, true, true, true, true, true, true, true, true, true, true, true, true, false, true, false, false, false, false, false, false, false, false] rfl (by kernel_rfl) rfl rfl (by decide) (fun _ _ _ h => h) (fun _ => q_fieldAddr hT rfl Tryd.fld29_2 rfl) ?_; clear hT; intro a hT
              refine d_pure (i := 17) hT #[true, true, true, true, true, true, true, true, true, true, true, true, true, false, true, false, false, true, false, false, false, false, false] rfl (by kernel_rfl) rfl rfl (by decide) (fun _ _ _ h => h) (fun _ => q_fieldAddr hT rfl Tryd.fld29_0 rfl) ?_; clear hT; intro a hT
              refine d_take (i := 13) hT #[true, true, true, true, true, true, true, true, true, true, true, true, true, true, true, false, false, true, false, false, false, false, false] rfl (by kernel_rfl) rfl rfl (by decide) (fun _ _ _ h => h) (fun _ hs => q_load_agg hT rfl Tryd.ty24 (Rd.ext (hR.rd 1 rfl 1 (ds := digC s.p) rfl) hs) rfl) hS ?_; clear hT; intro a hT
              refine d_take (i := 15) hT #[true, true, true, true, true, true, true, true, true, true, true, true, true, true, true, true, false, true, false, false, false, false, false] rfl (by kernel_rfl) rfl rfl (by decide) (fun _ _ _ h => h) (fun _ hs => q_load_agg hT rfl Tryd.ty24 (Rd.ext (hR.rd 0 rfl 2 (ds := digC s.ox) rfl) hs) rfl) hS ?_; clear hT; intro a hT
              refine d_take (i := 18) hT #[true, true, true, true, true, true, true, true, true, true, true, true, true, true, true, true, false, true, true, false, false, false, false] rfl (by kernel_rfl) rfl rfl (by decide) (fun _ _ _ h => h) (fun _ hs => q_load hT rfl Tryd.ty27 (Rd.ext (hR.rd 0 rfl 0 (ds := [(Value.slice q nd cq)]) rfl) hs)) hS ?_; clear hT; intro a hT
              refine d_pure (i := 19) hT #[true, true, true, true, true, true, true, true, true, true, true, true, true, true, true, true, false, true, true, true, false, false, false] rfl (by kernel_rfl) rfl rfl (by decide) (fun _ _ _ h => h) (fun _ => q_len_slice hT rfl Tryd.underlying27) ?_; clear hT; intro a hT
              refine d_one (i := 16) hT #[true, true, true, true, true, true, true, true, true, true, true, true, true, true, true, true, true, true, true, true, false, false, false] rfl (by kernel_rfl) rfl ?_
              refine w_callT (xs := [.tmp 51, .tmp 53]) hT rfl (vs := [(Value.agg (digC s.p).toArray), (Value.agg (digC s.ox).toArray)]) rfl (args := #[(Value.agg (digC s.p).toArray), (Value.agg (digC s.ox).toArray)]) rfl Tryd.func7 rfl rfl (by decide) ((Common_spec (s.p) (s.ox) _).mono ?_)
              rintro e w5 ⟨rfl, hX⟩
              refine ⟨_, rfl, ?_⟩; clear hT; intro a hT; replace hT : Tm 60 a ((54, (vI ((common s.p s.ox : Nat) : Int))) :: _) := hT
              replace hL := hL.ext hX
              replace hS := Vg.Loc.ext hS hX; refine ⟨fun _ => hS, ?_⟩
              refine d_pure (i := 20) hT #[true, true, true, true, true, true, true, true, true, true, true, true, true, true, true, true, true, true, true, true, true, false, false] rfl (by kernel_rfl) rfl rfl (by decide) (fun _ _ _ h => h) (fun _ => q_geq hT rfl rfl) ?_; clear hT; intro a hT
              refine d_pure (i := 21) hT #[true, true, true, true, true, true, true, true, true, true, true, true, true, true, true, true, true, true, true, true, true, true, false] rfl (by kernel_rfl) rfl rfl (by decide) (fun _ _ _ h => h) (fun _ => (q_pick hT rfl rfl rfl).v (v := (Value.bool (decide ((nd : Int) ≤ ((common s.p s.ox : Nat) : Int))))) rfl) ?_; clear hT; intro a hT
              refine d_pure (i := 22) hT #[true, true, true, true, true, true, true, true, true, true, true, true, true, true, true, true, true, true, true, true, true, true, true] rfl (by kernel_rfl) rfl rfl (by decide) (fun _ _ _ h => h) (fun _ => q_assign hT rfl) ?_; clear hT; intro a hT
              refine d_done (by kernel_rfl) ?_; clear hR hS
              refine then_norm ?_
              refine wp_ret ?_
              refine c_ret (vs := [(Value.bool (decide ((nd : Int) ≤ ((common s.p s.ox : Nat) : Int))))]) (rs := [.tmp 2]) hT rfl (.tmp rfl .nil) ?_
              refine ⟨?_, hL.drop⟩
              simp only [packed]; unfold Said.may; clear hL hT; simp_all <;> (intros; omega)
            · rw [hc7] at hT
              simp only [Bool.not_eq_true', Bool.not_eq_false'] at hc7
              refine d_off (i := 12) hT #[true, true, true, true, true, true, true, true, true, true, true, true, true, false, false, false, false, false, false, false, false, false, false] rfl (by kernel_rfl) rfl rfl (by decide) (fun _ _ _ h => h) ?_; clear hT; intro a hT
              refine d_off (i := 13) hT #[true, true, true, true, true, true, true, true, true, true, true, true, true, true, false, false, false, false, false, false, false, false, false] rfl (by kernel_rfl) rfl rfl (by decide) (fun _ _ _ h => h) ?_; clear hT; intro a hT
              refine d_off (i := 14) hT #[true, true, true, true, true, true, true, true, true, true, true, true, true, true, true, false, false, false, false, false, false, false, false] rfl (by kernel_rfl) rfl rfl (by decide) (fun _ _ _ h => h) ?_; clear hT; intro a hT
              refine d_off (i := 15) hT #[true, true, true, true, true, true, true, true, true, true, true, true, true, true, true, true, false, false, false, false, false, false, false] rfl (by kernel_rfl) rfl rfl (by decide) (fun _ _ _ h => h) ?_; clear hT; intro a hT
              refine d_off (i := 16) hT #[true, true, true, true, true, true, true, true, true, true, true, true, true, true, true, true, true, false, false, false, false, false, false] rfl (by kernel_rfl) rfl rfl (by decide) (fun _ _ _ h => h) ?_; clear hT; intro a hT
              refine d_off (i := 17) hT #[true, true, true, true, true, true, true, true, true, true, true, true, true, true, true, true, true, true, false, false, false, false, false] rfl (by kernel_rfl) rfl rfl (by decide) (fun _ _ _ h => h) ?_; clear hT; intro a hT
              refine d_off (i := 18) hT #[true, true, true, true, true, true, true, true, true, true, true, true, true, true, true, true, true, true, true, false, false, false, false] rfl (by kernel_rfl) rfl rfl (by decide) (fun _ _ _ h => h) ?_; clear hT; intro a hT
              refine d_off (i := 19) hT #[true, true, true, true, true, true, true, true, true, true, true, true, true, true, true, true, true, true, true, true, false, false, false] rfl (by kernel_rfl) rfl rfl (by decide) (fun _ _ _ h => h) ?_; clear hT; intro a hT
              refine d_off (i := 20) hT #[true, true, true, true, true, true, true, true, true, true, true, true, true, true, true, true, true, true, true, true, true, false, false] rfl (by kernel_rfl) rfl rfl (by decide) (fun _ _ _ h => h) ?_; clear hT; intro a hT
              refine d_pure (i := 21) hT #[true, true, true, true, true, true, true, true, true, true, true, true, true, true, true, true, true, true, true, true, true, true, false] rfl (by kernel_rfl) rfl rfl (by decide) (fun _ _ _ h => h) (fun _ => (q_pick hT rfl rfl rfl).v (v := (Value.bool false)) rfl) ?_; clear hT; intro a hT
              refine d_pure (i := 22) hT #[true, true, true, true, true, true, true, true, true, true, true, true, true, true, true, true, true, true, true, true, true, true, true] rfl (by kernel_rfl) rfl rfl (by decide) (fun _ _ _ h => h) (fun _ => q_assign hT rfl) ?_; clear hT; intro a hT
              refine d_done (by kernel_rfl) ?_; clear hR hS
              refine then_norm ?_
              refine wp_ret ?_
              refine c_ret (vs := [(Value.bool false)]) (rs := [.tmp 2]) hT rfl (.tmp rfl .nil) ?_
              refine ⟨?_, hL.drop⟩
              simp only [packed]; unfold Said.may; clear hL hT; simp_all <;> (intros; omega)
          · rw [hc6] at hT
            simp only [Bool.not_eq_true', Bool.not_eq_false'] at hc6
            refine d_off (i := 5) hT #[true, true, true, true, true, true, false, false, false, false, false, false, false, false, false, false, false, false, false, false, false, false, false] rfl (by kernel_rfl) rfl rfl (by decide) (fun _ _ _ h => h) ?_; clear hT; intro a hT
            refine d_off (i := 6) hT #[true, true, true, true, true, true, true, false, false, false, false, false, false, false, false, false, false, false, false, false, false, false, false] rfl (by kernel_rfl) rfl rfl (by decide) (fun _ _ _ h => h) ?_; clear hT; intro a hT
            refine d_off (i := 7) hT #[true, true, true, true, true, true, true, true, false, false, false, false, false, false, false, false, false, false, false, false, false, false, false] rfl (by kernel_rfl) rfl rfl (by decide) (fun _ _ _ h => h) ?_; clear hT; intro a hT
            refine d_off (i := 8) hT #[true, true, true, true, true, true, true, true, true, false, false, false, false, false, false, false, false, false, false, false, false, false, false] rfl (by kernel_rfl) rfl rfl (by decide) (fun _ _ _ h => h) ?_; clear hT; intro a hT
            refine d_off (i := 9) hT #[true, true, true, true, true, true, true, true, true, true, false, false, false, false, false, false, false, false, false, false, false, false, false] rfl (by kernel_rfl) rfl rfl (by decide) (fun _ _ _ h => h) ?_; clear hT; intro a hT
            refine d_pure (i := 10) hT #[true, true, true, true, true, true, true, true, true, true, true, false, false, false, false, false, false, false, false, false, false, false, false] rfl (by kernel_rfl) rfl rfl (by decide) (fun _ _ _ h => h) (fun _ => (q_pick hT rfl rfl rfl).v (v := (Value.bool false)) rfl) ?_; clear hT; intro a hT
            refine d_pure (i := 11) hT #[true, true, true, true, true, true, true, true, true, true, true, true, false, false, false, false, false, false, false, false, false, false, false] rfl (by kernel_rfl) rfl rfl (by decide) (fun _ _ _ h => h) (fun _ => q_move hT rfl) ?_; clear hT; intro a hT
            refine d_off (i := 12) hT #[true, true, true, true, true, true, true, true, true, true, true, true, true, false, false, false, false, false, false, false, false, false, false] rfl (by kernel_rfl) rfl rfl (by decide) (fun _ _ _ h => h) ?_; clear hT; intro a hT
            refine d_off (i := 13) hT #[true, true, true, true, true, true, true, true, true, true, true, true, true, true, false, false, false, false, false, false, false, false, false] rfl (by kernel_rfl) rfl rfl (by decide) (fun _ _ _ h => h) ?_; clear hT; intro a hT
            refine d_off (i := 14) hT #[true, true, true, true, true, true, true, true, true, true, true, true, true, true, true, false, false, false, false, false, false, false, false] rfl (by kernel_rfl) rfl rfl (by decide) (fun _ _ _ h => h) ?_; clear hT; intro a hT
            refine d_off (i := 15) hT #[true, true, true, true, true, true, true, true, true, true, true, true, true, true, true, true, false, false, false, false, false, false, false] rfl (by kernel_rfl) rfl rfl (by decide) (fun _ _ _ h => h) ?_; clear hT; intro a hT
            refine d_off (i := 16) hT #[true, true, true, true, true, true, true, true, true, true, true, true, true, true, true, true, true, false, false, false, false, false, false] rfl (by kernel_rfl) rfl rfl (by decide) (fun _ _ _ h => h) ?_; clear hT; intro a hT
            refine d_off (i := 17) hT #[true, true, true, true, true, true, true, true, true, true, true, true, true, true, true, true, true, true, false, false, false, false, false] rfl (by kernel_rfl) rfl rfl (by decide) (fun _ _ _ h => h) ?_; clear hT; intro a hT
            refine d_off (i := 18) hT #[true, true, true, true, true, true, true, true, true, true, true, true, true, true, true, true, true, true, true, false, false, false, false] rfl (by kernel_rfl) rfl rfl (by decide) (fun _ _ _ h => h) ?_; clear hT; intro a hT
            refine d_off (i := 19) hT #[true, true, true, true, true, true, true, true, true, true, true, true, true, true, true, true, true, true, true, true, false, false, false] rfl (by kernel_rfl) rfl rfl (by decide) (fun _ _ _ h => h) ?_; clear hT; intro a hT
            refine d_off (i := 20) hT #[true, true, true, true, true, true, true, true, true, true, true, true, true, true, true, true, true, true, true, true, true, false, false] rfl (by kernel_rfl) rfl rfl (by decide) (fun _ _ _ h => h) ?_; clear hT; intro a hT
            refine d_pure (i := 21) hT #[true, true, true, true, true, true, true, true, true, true, true, true, true, true, true, true, true, true, true, true, true, true, false] rfl (by kernel_rfl) rfl rfl (by decide) (fun _ _ _ h => h) (fun _ => (q_pick hT rfl rfl rfl).v (v := (Value.bool false)) rfl) ?_; clear hT; intro a hT
            refine d_pure (i := 22) hT #[true, true, true, true, true, true, true, true, true, true, true, true, true, true, true, true, true, true, true, true, true, true, true] rfl (by kernel_rfl) rfl rfl (by decide) (fun _ _ _ h => h) (fun _ => q_assign hT rfl) ?_; clear hT; intro a hT
            refine d_done (by kernel_rfl) ?_; clear hR hS
            refine then_norm ?_
            refine wp_ret ?_
            refine c_ret (vs := [(Value.bool false)]) (rs := [.tmp 2]) hT rfl (.tmp rfl .nil) ?_
            refine ⟨?_, hL.drop⟩
            simp only [packed]; unfold Said.may; clear hL hT; simp_all <;> (intros; omega)
    · rw [hc2] at hT
      simp only [Bool.not_eq_true', Bool.not_eq_false'] at hc2
      refine l_off hT rfl rfl rfl rfl rfl (by decide) ?_; clear hT; intro a hT
      refine l_off hT rfl rfl rfl rfl rfl (by decide) ?_; clear hT; intro a hT
      refine l_off hT rfl rfl rfl rfl rfl (by decide) ?_; clear hT; intro a hT
      refine l_off hT rfl rfl rfl rfl rfl (by decide) ?_; clear hT; intro a hT
      refine l_off hT rfl rfl rfl rfl rfl (by decide) ?_; clear hT; intro a hT
      refine l_on hT rfl rfl rfl rfl (w_q hT ((q_pick hT rfl rfl rfl).v (v := (Value.bool false)) rfl) rfl (by decide) ?_); clear hT; intro a hT
      refine l_q hT ((q_pick hT rfl rfl rfl).v (v := (Value.bool false)) rfl) rfl rfl (by decide) ?_; clear hT; intro a hT
      refine l_q hT (q_assign hT rfl) rfl rfl (by decide) ?_; clear hT; intro a hT
      refine l_end ?_
      refine then_norm ?_
      refine c_false hT rfl rfl ?_
      refine c_seq ?_
      refine c_region ?_
      refine l_q hT (q_fieldAddr hT rfl Tryd.fld29_1 rfl) rfl rfl (by decide) ?_; clear hT; intro a hT
      refine l_q hT (q_load hT rfl Tryd.ty4 (hL.rd 0 rfl 1 (ds := [(Value.bool s.o)]) rfl)) rfl rfl (by decide) ?_; clear hT; intro a hT
      refine l_q hT (q_not hT rfl) rfl rfl (by decide) ?_; clear hT; intro a hT
      refine l_q hT (q_assign hT rfl) rfl rfl (by decide) ?_; clear hT; intro a hT
      refine l_end ?_
      refine then_norm ?_
      refine c_if hT rfl (fun hc8 => ?_) (fun hc8 => ?_)
      · skip
        simp only [Bool.not_eq_true', Bool.not_eq_false'] at hc8
        refine c_seq ?_
        refine c_region ?_
        refine l_q hT (q_fieldAddr hT rfl Tryd.fld29_2 rfl) rfl rfl (by decide) ?_; clear hT; intro a hT
        refine l_q hT (q_load_agg hT rfl Tryd.ty24 (hL.rd 0 rfl 2 (ds := digC s.ox) rfl) rfl) rfl rfl (by decide) ?_; clear hT; intro a hT
        refine l_q hT (q_build (ps := []) (pv := []) (v := .agg (digC Dig.zero).toArray) hT rfl (fun _ => by kernel_rfl)) rfl rfl (by decide) ?_; clear hT; intro a hT
        refine l_q hT (q_eq_agg hT rfl rfl Tryd.eqg24 (EqR.dig Tryd.arr24 Tryd.underlying5 s.ox Dig.zero) (by decide)) rfl rfl (by decide) ?_; clear hT; intro a hT
        refine l_q hT (q_move hT rfl) rfl rfl (by decide) ?_; clear hT; intro a hT
        rcases Bool.eq_false_or_eq_true (decide (s.ox = Dig.zero)) with hc9 | hc9
        · rw [hc9] at hT
          have hc9 := of_decide_eq_true hc9
          refine l_on hT rfl rfl rfl rfl (w_q hT (q_fieldAddr hT rfl Tryd.fld29_3 rfl) rfl (by decide) ?_); clear hT; intro a hT
          refine l_on hT rfl rfl rfl rfl (w_q hT (q_load_agg hT rfl Tryd.ty24 (hL.rd 0 rfl 34 (ds := digC s.ov) rfl) rfl) rfl (by decide) ?_); clear hT; intro a hT
          refine l_on hT rfl rfl rfl rfl (w_q hT (q_build (ps := []) (pv := []) (v := .agg (digC Dig.zero).toArray) hT rfl (fun _ => by kernel_rfl)) rfl (by decide) ?_); clear hT; intro a hT
          refine l_on hT rfl rfl rfl rfl (w_q hT (q_eq_agg hT rfl rfl Tryd.eqg24 (EqR.dig Tryd.arr24 Tryd.underlying5 s.ov Dig.zero) (by decide)) rfl (by decide) ?_); clear hT; intro a hT
          refine l_q hT ((q_pick hT rfl rfl rfl).v (v := (Value.bool (decide (s.ov = Dig.zero)))) rfl) rfl rfl (by decide) ?_; clear hT; intro a hT
          refine l_q hT (q_assign hT rfl) rfl rfl (by decide) ?_; clear hT; intro a hT
          refine l_end ?_
          refine then_norm ?_
          refine wp_ret ?_
          refine blk_ret ?_
          refine then_ret ?_
          refine c_ret (vs := [(Value.bool (decide (s.ov = Dig.zero)))]) (rs := [.tmp 2]) hT rfl (.tmp rfl .nil) ?_
          refine ⟨?_, hL.drop⟩
          simp only [packed]; unfold Said.may; clear hL hT; simp_all <;> (intros; omega)
        · rw [hc9] at hT
          have hc9 := of_decide_eq_false hc9
          refine l_off hT rfl rfl rfl rfl rfl (by decide) ?_; clear hT; intro a hT
          refine l_off hT rfl rfl rfl rfl rfl (by decide) ?_; clear hT; intro a hT
          refine l_off hT rfl rfl rfl rfl rfl (by decide) ?_; clear hT; intro a hT
          refine l_off hT rfl rfl rfl rfl rfl (by decide) ?_; clear hT; intro a hT
          refine l_q hT ((q_pick hT rfl rfl rfl).v (v := (Value.bool false)) rfl) rfl rfl (by decide) ?_; clear hT; intro a hT
          refine l_q hT (q_assign hT rfl) rfl rfl (by decide) ?_; clear hT; intro a hT
          refine l_end ?_
          refine then_norm ?_
          refine wp_ret ?_
          refine blk_ret ?_
          refine then_ret ?_
          refine c_ret (vs := [(Value.bool false)]) (rs := [.tmp 2]) hT rfl (.tmp rfl .nil) ?_
          refine ⟨?_, hL.drop⟩
          simp only [packed]; unfold Said.may; clear hL hT; simp_all <;> (intros; omega)
      · skip
        simp only [Bool.not_eq_true', Bool.not_eq_false'] at hc8
        refine wp_skip ?_
        refine blk_norm ?_
        refine then_norm ?_
        refine c_seq ?_
        refine d_start' hL #[false, false, false, false, false, false, false, false, false, false, false, false, false, false, false, false, false, false, false, false, false, false, false] [] rfl rfl rfl ?_; clear hL; intro w6 hL hE; have hR := hL; have hS := Ext.refl w6
        refine d_pure (i := 0) hT #[true, false, false, false, false, false, false, false, false, false, false, false, false, false, false, false, false, false, false, false, false, false, false] rfl (by kernel_rfl) rfl rfl (by decide) (fun _ _ _ h => h) (fun _ => q_fieldAddr hT rfl Tryd.fld54_2 rfl) ?_; clear hT; intro a hT
        refine d_pure (i := 1) hT #[true, true, false, false, false, false, false, false, false, false, false, false, false, false, false, false, false, false, false, false, false, false, false] rfl (by kernel_rfl) rfl rfl (by decide) (fun _ _ _ h => h) (fun _ => q_fieldAddr hT rfl Tryd.fld26_0 rfl) ?_; clear hT; intro a hT
        refine d_take (i := 2) hT #[true, true, true, false, false, false, false, false, false, false, false, false, false, false, false, false, false, false, false, false, false, false, false] rfl (by kernel_rfl) rfl rfl (by decide) (fun _ _ _ h => h) (fun _ hs => q_load hT rfl Tryd.ty4 (Rd.ext (hR.rd 1 rfl 33 (ds := [(Value.bool s.pr)]) rfl) hs)) hS ?_; clear hT; intro a hT
        refine d_pure (i := 3) hT #[true, true, true, true, false, false, false, false, false, false, false, false, false, false, false, false, false, false, false, false, false, false, false] rfl (by kernel_rfl) rfl rfl (by decide) (fun _ _ _ h => h) (fun _ => q_not hT rfl) ?_; clear hT; intro a hT
        refine d_pure (i := 4) hT #[true, true, true, true, true, false, false, false, false, false, false, false, false, false, false, false, false, false, false, false, false, false, false] rfl (by kernel_rfl) rfl rfl (by decide) (fun _ _ _ h => h) (fun _ => q_move hT rfl) ?_; clear hT; intro a hT
        rcases Bool.eq_false_or_eq_true (!s.pr) with hc10 | hc10
        · rw [hc10] at hT
          simp only [Bool.not_eq_true', Bool.not_eq_false'] at hc10
          refine d_pure (i := 5) hT #[true, true, true, true, true, true, false, false, false, false, false, false, false, false, false, false, false, false, false, false, false, false, false] rfl (by kernel_rfl) rfl rfl (by decide) (fun _ _ _ h => h) (fun _ => q_fieldAddr hT rfl Tryd.fld29_2 rfl) ?_; clear hT; intro a hT
          refine d_pure (i := 7) hT #[true, true, true, true, true, true, false, true, false, false, false, false, false, false, false, false, false, false, false, false, false, false, false] rfl (by kernel_rfl) rfl rfl (by decide) (fun _ _ _ h => h) (fun _ => q_fieldAddr hT rfl Tryd.fld54_1 rfl) ?_; clear hT; intro a hT
          refine d_take (i := 6) hT #[true, true, true, true, true, true, true, true, false, false, false, false, false, false, false, false, false, false, false, false, false, false, false] rfl (by kernel_rfl) rfl rfl (by decide) (fun _ _ _ h => h) (fun _ hs => q_load_agg hT rfl Tryd.ty24 (Rd.ext (hR.rd 0 rfl 2 (ds := digC s.ox) rfl) hs) rfl) hS ?_; clear hT; intro a hT
          refine d_take (i := 8) hT #[true, true, true, true, true, true, true, true, true, false, false, false, false, false, false, false, false, false, false, false, false, false, false] rfl (by kernel_rfl) rfl rfl (by decide) (fun _ _ _ h => h) (fun _ hs => q_load_agg hT rfl Tryd.ty24 (Rd.ext (hR.rd 1 rfl 1 (ds := digC s.p) rfl) hs) rfl) hS ?_; clear hT; intro a hT
          refine d_pure (i := 9) hT #[true, true, true, true, true, true, true, true, true, true, false, false, false, false, false, false, false, false, false, false, false, false, false] rfl (by kernel_rfl) rfl rfl (by decide) (fun _ _ _ h => h) (fun _ => q_ne_agg hT rfl rfl Tryd.eqg24 (EqR.dig Tryd.arr24 Tryd.underlying5 s.ox s.p) (by decide)) ?_; clear hT; intro a hT
          refine d_pure (i := 10) hT #[true, true, true, true, true, true, true, true, true, true, true, false, false, false, false, false, false, false, false, false, false, false, false] rfl (by kernel_rfl) rfl rfl (by decide) (fun _ _ _ h => h) (fun _ => (q_pick hT rfl rfl rfl).v (v := (Value.bool (!(decide (s.ox = s.p))))) rfl) ?_; clear hT; intro a hT
          refine d_pure (i := 11) hT #[true, true, true, true, true, true, true, true, true, true, true, true, false, false, false, false, false, false, false, false, false, false, false] rfl (by kernel_rfl) rfl rfl (by decide) (fun _ _ _ h => h) (fun _ => q_move hT rfl) ?_; clear hT; intro a hT
          rcases Bool.eq_false_or_eq_true (!(decide (s.ox = s.p))) with hc11 | hc11
          · rw [hc11] at hT
            simp only [Bool.not_eq_true', Bool.not_eq_false'] at hc11
            refine d_pure (i := 12) hT #[true, true, true, true, true, true, true, true, true, true, true, true, true, false, false, false, false, false, false, false, false, false, false] rfl (by kernel_rfl) rfl rfl (by decide) (fun _ _ _ h => h) (fun _ => q_fieldAddr hT rfl Tryd.fld54_1 rfl) ?_; clear hT; intro a hT
            refine d_pure (i := 14) hT #[true, true, true, true, true, true, true, true, true, true, true, true, true, false, true, false, false, false, false, false, false, false, false] rfl (by kernel_rfl) rfl rfl (by decide) (fun _ _ _ h => h) (fun _ => q_fieldAddr hT rfl Tryd.fld29_2 rfl) ?_; clear hT; intro a hT
            refine d_pure (i := 17) hT #[true, true, true, true, true, true, true, true, true, true, true, true, true, false, true, false, false, true, false, false, false, false, false] rfl (by kernel_rfl) rfl rfl (by decide) (fun _ _ _ h => h) (fun _ => q_fieldAddr hT rfl Tryd.fld29_0 rfl) ?_; clear hT; intro a hT
            refine d_take (i := 13) hT #[true, true, true, true, true, true, true, true, true, true, true, true, true, true, true, false, false, true, false, false, false, false, false] rfl (by kernel_rfl) rfl rfl (by decide) (fun _ _ _ h => h) (fun _ hs => q_load_agg hT rfl Tryd.ty24 (Rd.ext (hR.rd 1 rfl 1 (ds := digC s.p) rfl) hs) rfl) hS ?_; clear hT; intro a hT
            refine d_take (i := 15) hT #[true, true, true, true, true, true, true, true, true, true, true, true, true, true, true, true, false, true, false, false, false, false, false] rfl (by kernel_rfl) rfl rfl (by decide) (fun _ _ _ h => h) (fun _ hs => q_load_agg hT rfl Tryd.ty24 (Rd.ext (hR.rd 0 rfl 2 (ds := digC s.ox) rfl) hs) rfl) hS ?_; clear hT; intro a hT
            refine d_take (i := 18) hT #[true, true, true, true, true, true, true, true, true, true, true, true, true, true, true, true, false, true, true, false, false, false, false] rfl (by kernel_rfl) rfl rfl (by decide) (fun _ _ _ h => h) (fun _ hs => q_load hT rfl Tryd.ty27 (Rd.ext (hR.rd 0 rfl 0 (ds := [(Value.slice q nd cq)]) rfl) hs)) hS ?_; clear hT; intro a hT
            refine d_pure (i := 19) hT #[true, true, true, true, true, true, true, true, true, true, true, true, true, true, true, true, false, true, true, true, false, false, false] rfl (by kernel_rfl) rfl rfl (by decide) (fun _ _ _ h => h) (fun _ => q_len_slice hT rfl Tryd.underlying27) ?_; clear hT; intro a hT
            refine d_one (i := 16) hT #[true, true, true, true, true, true, true, true, true, true, true, true, true, true, true, true, true, true, true, true, false, false, false] rfl (by kernel_rfl) rfl ?_
            refine w_callT (xs := [.tmp 51, .tmp 53]) hT rfl (vs := [(Value.agg (digC s.p).toArray), (Value.agg (digC s.ox).toArray)]) rfl (args := #[(Value.agg (digC s.p).toArray), (Value.agg (digC s.ox).toArray)]) rfl Tryd.func7 rfl rfl (by decide) ((Common_spec (s.p) (s.ox) _).mono ?_)
            rintro e w7 ⟨rfl, hX⟩
            refine ⟨_, rfl, ?_⟩; clear hT; intro a hT; replace hT : Tm 60 a ((54, (vI ((common s.p s.ox : Nat) : Int))) :: _) := hT
            replace hL := hL.ext hX
            replace hS := Vg.Loc.ext hS hX; refine ⟨fun _ => hS, ?_⟩
            refine d_pure (i := 20) hT #[true, true, true, true, true, true, true, true, true, true, true, true, true, true, true, true, true, true, true, true, true, false, false] rfl (by kernel_rfl) rfl rfl (by decide) (fun _ _ _ h => h) (fun _ => q_geq hT rfl rfl) ?_; clear hT; intro a hT
            refine d_pure (i := 21) hT #[true, true, true, true, true, true, true, true, true, true, true, true, true, true, true, true, true, true, true, true, true, true, false] rfl (by kernel_rfl) rfl rfl (by decide) (fun _ _ _ h => h) (fun _ => (q_pick hT rfl rfl rfl).v (v := (Value.bool (decide ((nd : Int) ≤ ((common s.p s.ox : Nat) : Int))))) rfl) ?_; clear hT; intro a hT
            refine d_pure (i := 22) hT #[true, true, true, true, true, true, true, true, true, true, true, true, true, true, true, true, true, true, true, true, true, true, true] rfl (by kernel_rfl) rfl rfl (by decide) (fun _ _ _ h => h) (fun _ => q_assign hT rfl) ?_; clear hT; intro a hT
            refine d_done (by kernel_rfl) ?_; clear hR hS
            refine then_norm ?_
            refine wp_ret ?_
            refine c_ret (vs := [(Value.bool (decide ((nd : Int) ≤ ((common s.p s.ox : Nat) : Int))))]) (rs := [.tmp 2]) hT rfl (.tmp rfl .nil) ?_
            refine ⟨?_, hL.drop⟩
            simp only [packed]; unfold Said.may; clear hL hT; simp_all <;> (intros; omega)
          · rw [hc11] at hT
            simp only [Bool.not_eq_true', Bool.not_eq_false'] at hc11
            refine d_off (i := 12) hT #[true, true, true, true, true, true, true, true, true, true, true, true, true, false, false, false, false, false, false, false, false, false, false] rfl (by kernel_rfl) rfl rfl (by decide) (fun _ _ _ h => h) ?_; clear hT; intro a hT
            refine d_off (i := 13) hT #[true, true, true, true, true, true, true, true, true, true, true, true, true, true, false, false, false, false, false, false, false, false, false] rfl (by kernel_rfl) rfl rfl (by decide) (fun _ _ _ h => h) ?_; clear hT; intro a hT
            refine d_off (i := 14) hT #[true, true, true, true, true, true, true, true, true, true, true, true, true, true, true, false, false, false, false, false, false, false, false] rfl (by kernel_rfl) rfl rfl (by decide) (fun _ _ _ h => h) ?_; clear hT; intro a hT
            refine d_off (i := 15) hT #[true, true, true, true, true, true, true, true, true, true, true, true, true, true, true, true, false, false, false, false, false, false, false] rfl (by kernel_rfl) rfl rfl (by decide) (fun _ _ _ h => h) ?_; clear hT; intro a hT
            refine d_off (i := 16) hT #[true, true, true, true, true, true, true, true, true, true, true, true, true, true, true, true, true, false, false, false, false, false, false] rfl (by kernel_rfl) rfl rfl (by decide) (fun _ _ _ h => h) ?_; clear hT; intro a hT
            refine d_off (i := 17) hT #[true, true, true, true, true, true, true, true, true, true, true, true, true, true, true, true, true, true, false, false, false, false, false] rfl (by kernel_rfl) rfl rfl (by decide) (fun _ _ _ h => h) ?_; clear hT; intro a hT
            refine d_off (i := 18) hT #[true, true, true, true, true, true, true, true, true, true, true, true, true, true, true, true, true, true, true, false, false, false, false] rfl (by kernel_rfl) rfl rfl (by decide) (fun _ _ _ h => h) ?_; clear hT; intro a hT
            refine d_off (i := 19) hT #[true, true, true, true, true, true, true, true, true, true, true, true, true, true, true, true, true, true, true, true, false, false, false] rfl (by kernel_rfl) rfl rfl (by decide) (fun _ _ _ h => h) ?_; clear hT; intro a hT
            refine d_off (i := 20) hT #[true, true, true, true, true, true, true, true, true, true, true, true, true, true, true, true, true, true, true, true, true, false, false] rfl (by kernel_rfl) rfl rfl (by decide) (fun _ _ _ h => h) ?_; clear hT; intro a hT
            refine d_pure (i := 21) hT #[true, true, true, true, true, true, true, true, true, true, true, true, true, true, true, true, true, true, true, true, true, true, false] rfl (by kernel_rfl) rfl rfl (by decide) (fun _ _ _ h => h) (fun _ => (q_pick hT rfl rfl rfl).v (v := (Value.bool false)) rfl) ?_; clear hT; intro a hT
            refine d_pure (i := 22) hT #[true, true, true, true, true, true, true, true, true, true, true, true, true, true, true, true, true, true, true, true, true, true, true] rfl (by kernel_rfl) rfl rfl (by decide) (fun _ _ _ h => h) (fun _ => q_assign hT rfl) ?_; clear hT; intro a hT
            refine d_done (by kernel_rfl) ?_; clear hR hS
            refine then_norm ?_
            refine wp_ret ?_
            refine c_ret (vs := [(Value.bool false)]) (rs := [.tmp 2]) hT rfl (.tmp rfl .nil) ?_
            refine ⟨?_, hL.drop⟩
            simp only [packed]; unfold Said.may; clear hL hT; simp_all <;> (intros; omega)
        · rw [hc10] at hT
          simp only [Bool.not_eq_true', Bool.not_eq_false'] at hc10
          refine d_off (i := 5) hT #[true, true, true, true, true, true, false, false, false, false, false, false, false, false, false, false, false, false, false, false, false, false, false] rfl (by kernel_rfl) rfl rfl (by decide) (fun _ _ _ h => h) ?_; clear hT; intro a hT
          refine d_off (i := 6) hT #[true, true, true, true, true, true, true, false, false, false, false, false, false, false, false, false, false, false, false, false, false, false, false] rfl (by kernel_rfl) rfl rfl (by decide) (fun _ _ _ h => h) ?_; clear hT; intro a hT
          refine d_off (i := 7) hT #[true, true, true, true, true, true, true, true, false, false, false, false, false, false, false, false, false, false, false, false, false, false, false] rfl (by kernel_rfl) rfl rfl (by decide) (fun _ _ _ h => h) ?_; clear hT; intro a hT
          refine d_off (i := 8) hT #[true, true, true, true, true, true, true, true, true, false, false, false, false, false, false, false, false, false, false, false, false, false, false] rfl (by kernel_rfl) rfl rfl (by decide) (fun _ _ _ h => h) ?_; clear hT; intro a hT
          refine d_off (i := 9) hT #[true, true, true, true, true, true, true, true, true, true, false, false, false, false, false, false, false, false, false, false, false, false, false] rfl (by kernel_rfl) rfl rfl (by decide) (fun _ _ _ h => h) ?_; clear hT; intro a hT
          refine d_pure (i := 10) hT #[true, true, true, true, true, true, true, true, true, true, true, false, false, false, false, false, false, false, false, false, false, false, false] rfl (by kernel_rfl) rfl rfl (by decide) (fun _ _ _ h => h) (fun _ => (q_pick hT rfl rfl rfl).v (v := (Value.bool false)) rfl) ?_; clear hT; intro a hT
          refine d_pure (i := 11) hT #[true, true, true, true, true, true, true, true, true, true, true, true, false, false, false, false, false, false, false, false, false, false, false] rfl (by kernel_rfl) rfl rfl (by decide) (fun _ _ _ h => h) (fun _ => q_move hT rfl) ?_; clear hT; intro a hT
          refine d_off (i := 12) hT #[true, true, true, true, true, true, true, true, true, true, true, true, true, false, false, false, false, false, false, false, false, false, false] rfl (by kernel_rfl) rfl rfl (by decide) (fun _ _ _ h => h) ?_; clear hT; intro a hT
          refine d_off (i := 13) hT #[true, true, true, true, true, true, true, true, true, true, true, true, true, true, false, false, false, false, false, false, false, false, false] rfl (by kernel_rfl) rfl rfl (by decide) (fun _ _ _ h => h) ?_; clear hT; intro a hT
          refine d_off (i := 14) hT #[true, true, true, true, true, true, true, true, true, true, true, true, true, true, true, false, false, false, false, false, false, false, false] rfl (by kernel_rfl) rfl rfl (by decide) (fun _ _ _ h => h) ?_; clear hT; intro a hT
          refine d_off (i := 15) hT #[true, true, true, true, true, true, true, true, true, true, true, true, true, true, true, true, false, false, false, false, false, false, false] rfl (by kernel_rfl) rfl rfl (by decide) (fun _ _ _ h => h) ?_; clear hT; intro a hT
          refine d_off (i := 16) hT #[true, true, true, true, true, true, true, true, true, true, true, true, true, true, true, true, true, false, false, false, false, false, false] rfl (by kernel_rfl) rfl rfl (by decide) (fun _ _ _ h => h) ?_; clear hT; intro a hT
          refine d_off (i := 17) hT #[true, true, true, true, true, true, true, true, true, true, true, true, true, true, true, true, true, true, false, false, false, false, false] rfl (by kernel_rfl) rfl rfl (by decide) (fun _ _ _ h => h) ?_; clear hT; intro a hT
          refine d_off (i := 18) hT #[true, true, true, true, true, true, true, true, true, true, true, true, true, true, true, true, true, true, true, false, false, false, false] rfl (by kernel_rfl) rfl rfl (by decide) (fun _ _ _ h => h) ?_; clear hT; intro a hT
          refine d_off (i := 19) hT #[true, true, true, true, true, true, true, true, true, true, true, true, true, true, true, true, true, true, true, true, false, false, false] rfl (by kernel_rfl) rfl rfl (by decide) (fun _ _ _ h => h) ?_; clear hT; intro a hT
          refine d_off (i := 20) hT #[true, true, true, true, true, true, true, true, true, true, true, true, true, true, true, true, true, true, true, true, true, false, false] rfl (by kernel_rfl) rfl rfl (by decide) (fun _ _ _ h => h) ?_; clear hT; intro a hT
          refine d_pure (i := 21) hT #[true, true, true, true, true, true, true, true, true, true, true, true, true, true, true, true, true, true, true, true, true, true, false] rfl (by kernel_rfl) rfl rfl (by decide) (fun _ _ _ h => h) (fun _ => (q_pick hT rfl rfl rfl).v (v := (Value.bool false)) rfl) ?_; clear hT; intro a hT
          refine d_pure (i := 22) hT #[true, true, true, true, true, true, true, true, true, true, true, true, true, true, true, true, true, true, true, true, true, true, true] rfl (by kernel_rfl) rfl rfl (by decide) (fun _ _ _ h => h) (fun _ => q_assign hT rfl) ?_; clear hT; intro a hT
          refine d_done (by kernel_rfl) ?_; clear hR hS
          refine then_norm ?_
          refine wp_ret ?_
          refine c_ret (vs := [(Value.bool false)]) (rs := [.tmp 2]) hT rfl (.tmp rfl .nil) ?_
          refine ⟨?_, hL.drop⟩
          simp only [packed]; unfold Said.may; clear hL hT; simp_all <;> (intros; omega)

set_option maxRecDepth 20000 in
set_option maxHeartbeats 1000000 in
theorem SShort_spec (w : Int) (hw : widthB w = true) (bs : List UInt8) (p : Option Addr) (len cap : Nat) (hcl : len ≤ cap) (hbig : len < 1000000) (w0 : World) (hK : KeysAt w0) (hsl : SlB w0 p len bs) :
    Calls Tryd.prog 36 #[(vI w), (Value.slice p len cap)] w0 fun e w' => e = .returned (.tuple #[dv (shortD w (sha bs)), vI 0]) ∧ Ext w0 w' := by
  refine c_enter (n := 14) (args := [(vI w), (Value.slice p len cap)]) Tryd.func36 rfl rfl (Nat.le_of_ble_eq_true rfl) rfl (fun a hT => ?_)
  simp only [List.zipIdx_cons, List.zipIdx_nil, List.map_cons, List.map_nil, Nat.reduceAdd] at hT
  have hL := Vg.Loc.refl [] w0
  refine c_seq ?_
  refine c_region ?_
  refine l_do rfl ?_
  refine w_alloc hT hL (by decide) Tryd.ty24 ?_; clear hT hL; intro b1 a w1 hT hL hE hB
  refine l_q hT (q_assign hT rfl) rfl rfl (by decide) ?_; clear hT; intro a hT
  refine l_end ?_
  refine then_norm ?_
  refine c_seq ?_
  refine c_seq ?_
  refine c_region ?_
  refine l_q hT (q_move hT rfl) rfl rfl (by decide) ?_; clear hT; intro a hT
  refine l_do rfl ?_
  refine w_callT (xs := [.tmp 6]) hT rfl (vs := [(vI w)]) rfl (args := #[(vI w)]) rfl Tryd.func29 rfl rfl (by decide) ((width_spec (w) _).mono ?_)
  rintro e w2 ⟨rfl, hX⟩
  refine ⟨_, rfl, ?_⟩; clear hT; intro a hT; replace hT : Tm 14 a ((7, (Value.bool (widthB w))) :: _) := hT
  replace hL := hL.ext hX
  rw [hw] at hT
  refine l_q hT ((q_not hT rfl).b rfl) rfl rfl (by decide) ?_; clear hT; intro a hT
  refine l_end ?_
  refine then_norm ?_
  refine c_false hT rfl rfl ?_
  refine wp_skip ?_
  refine then_norm ?_
  refine c_seq ?_
  refine c_region ?_
  refine l_q hT (q_move hT rfl) rfl rfl (by decide) ?_; clear hT; intro a hT
  refine l_q hT (q_move hT rfl) rfl rfl (by decide) ?_; clear hT; intro a hT
  refine l_do rfl ?_
  refine w_callT (xs := [.tmp 11]) hT rfl (vs := [(Value.slice p len cap)]) rfl (args := #[(Value.slice p len cap)]) rfl Tryd.func53 rfl rfl (by decide) ((shaSum_spec bs p len cap _ (hK.of hL (by simp)) (hsl.ext hL) hcl (by omega)).mono ?_)
  rintro e w3 ⟨rfl, hX⟩
  refine ⟨_, rfl, ?_⟩; clear hT; intro a hT; replace hT : Tm 14 a ((12, (Value.agg (digC (sha bs)).toArray)) :: _) := hT
  replace hL := hL.ext hX
  refine l_do rfl ?_
  refine w_callT (xs := [.tmp 10, .tmp 12]) hT rfl (vs := [(vI w), (Value.agg (digC (sha bs)).toArray)]) rfl (args := #[(vI w), (Value.agg (digC (sha bs)).toArray)]) rfl Tryd.func40 rfl rfl (by decide) ((short_spec (w) (sha bs) _).mono ?_)
  rintro e w4 ⟨rfl, hX⟩
  refine ⟨_, rfl, ?_⟩; clear hT; intro a hT; replace hT : Tm 14 a ((13, (Value.agg (digC (shortD (w) (sha bs))).toArray)) :: _) := hT
  replace hL := hL.ext hX
  refine l_do rfl ?_
  refine w_store hT hL 0 (c := digC Dig.zero) rfl rfl Tryd.ty24 rfl (vs := digC (shortD (w) (sha bs))) rfl rfl (by first | decide | (simp [arr32_len, arr8_len, digC_len]; done) | (simp [arr32_len, arr8_len, digC_len]; omega)) rfl (c' := digC (shortD (w) (sha bs))) rfl ?_; clear hL; intro w5 hL hE
  replace hL : Vg.Loc [] w0 w5 ([[(b1, ob (digC (shortD (w) (sha bs))) 24)]]) := hL
  refine l_q hT (q_assign hT rfl) rfl rfl (by decide) ?_; clear hT; intro a hT
  refine l_end ?_
  refine then_norm ?_
  refine wp_ret ?_
  refine c_ret (vs := [(Value.agg (digC (shortD (w) (sha bs))).toArray), (vI 0)]) (rs := [.cell 4 24, .tmp 5]) hT rfl (.agg rfl Tryd.ty24 (hL.rd 0 rfl 0 (ds := digC (shortD (w) (sha bs))) rfl) rfl (.tmp rfl .nil)) ?_
  exact ⟨rfl, hL.drop⟩
end Go.Proofs.YtcaffacganffjaaDoor
end

section
namespace Go.Proofs.YtcaffacganffjaaDoor
open Go Go.Vg


set_option maxRecDepth 20000 in
set_option maxHeartbeats 1000000 in
theorem Backward_spec (p : Option Addr) (n cap : Nat) (w0 : World) :
    Calls Tryd.prog 51 #[(Value.slice p n cap)] w0 fun e w' => ∃ b, e = .returned (.func (.func 60) #[] #[vp b 0]) ∧ Vg.Loc [] w0 w' [[(b, ob [.slice p n cap] 27)]] := by
  refine c_enter (n := 4) (args := [(Value.slice p n cap)]) Tryd.func51 rfl rfl (Nat.le_of_ble_eq_true rfl) rfl (fun a hT => ?_)
  simp only [List.zipIdx_cons, List.zipIdx_nil, List.map_cons, List.map_nil, Nat.reduceAdd] at hT
  have hL := Vg.Loc.refl [] w0
  refine c_seq ?_
  refine c_region ?_
  refine l_do rfl ?_
  refine w_box hT hL (by decide) rfl (c := [(Value.slice p n cap)]) rfl ?_; clear hT hL; intro b1 a w1 hT hL hE hB
  refine l_q hT (q_assign hT rfl) rfl rfl (by decide) ?_; clear hT; intro a hT
  refine l_end ?_
  refine then_norm ?_
  refine c_seq ?_
  refine c_region ?_
  refine l_q hT (q_makeFunc (fs := []) (cs := [.tmp 1]) hT rfl rfl) rfl rfl (by decide) ?_; clear hT; intro a hT
  refine l_q hT (q_assign hT rfl) rfl rfl (by decide) ?_; clear hT; intro a hT
  refine l_end ?_
  refine then_norm ?_
  refine wp_ret ?_
  refine c_ret (vs := [(Value.func (Fn.func 60) #[] #[(vp b1 0)])]) (rs := [.tmp 2]) hT rfl (.tmp rfl .nil) ?_
  exact ⟨_, rfl, hL⟩

set_option maxRecDepth 20000 in
set_option maxHeartbeats 1000000 in
theorem Backward_iter (ds : List Dig) (p : Option Addr) (len cap b : Nat) (hbig : len < 100000) (B : Nat) (w0 : World) (hsl : SlT w0 p len 32 digC Dig.zero ds) (hpB : 0 < len → ∀ ad : Addr, p = some ad → ad.block < B) :
    Iter Tryd.prog 60 [(vp b 0)] len (fun k _ _ vs => vs = [vI ((len - 1 - k : Nat) : Int), dv (ds.getD (len - 1 - k) Dig.zero)]) [[(b, ob [(Value.slice p len cap)] 27)]] B w0 := by
  intro l ci J Jx hJ hL0 hBci hy
  refine c_enterI (n := 19) (args := [(Value.func (Fn.yield l) #[] #[]), (vp b 0)]) Tryd.func60 rfl rfl (Nat.le_of_ble_eq_true rfl) rfl (fun a hT => ?_)
  simp only [List.zipIdx_cons, List.zipIdx_nil, List.map_cons, List.map_nil, Nat.reduceAdd] at hT
  refine with_outM (fun w h => by simp at h) (fun hOut => ?_)
  have hL : Vg.Loc (keys ([[(b, ob [(Value.slice p len cap)] 27)]] ++ ci)) w0 w0 ([[(b, ob [(Value.slice p len cap)] 27)]] ++ ci) := hL0
  refine c_seqI ?_
  refine c_regionI WF.wide (noOut_then hOut) rfl ?_
  refine l_q hT (q_load hT rfl Tryd.ty27 (hL.rd 0 rfl 0 (ds := [(Value.slice p len cap)]) rfl)) rfl rfl (by decide) ?_; clear hT; intro a hT
  refine l_q hT (q_len_slice hT rfl Tryd.underlying27) rfl rfl (by decide) ?_; clear hT; intro a hT
  refine l_q hT (q_subI hT rfl rfl (r := (len : Int) - 1) rfl (by omega) (by omega)) rfl rfl (by decide) ?_; clear hT; intro a hT
  refine l_q hT (q_assign hT rfl) rfl rfl (by decide) ?_; clear hT; intro a hT
  refine l_end ?_
  refine then_norm ?_
  refine wpIn_block ?_
  refine c_loopI (fun mz a wz => ∃ (k : Nat) (i : Int) (c : List Chunk), mz = len - k ∧ k ≤ len ∧ i = (len : Int) - 1 - (k : Int) ∧ J k c ∧ Tm 19 a [(0, (Value.func (Fn.yield l) #[] #[])), (1, (vp b 0)), (3, (vI i))] ∧ Vg.Loc (keys ([[(b, ob [(Value.slice p len cap)] 27)]] ++ ci)) w0 wz ([[(b, ob [(Value.slice p len cap)] 27)]] ++ c)) id (len - 0) ?_ ?_
  · exact ⟨0, _, ci, rfl, by omega, by omega, hJ, hT.keep [0, 1, 3] rfl, hL⟩
  clear hT hL
  rintro mz a w1 ⟨k, i, c, rfl, hk, hi, hJk, hT, hL⟩
  refine c_seqI ?_
  refine c_seqI ?_
  refine c_regionI WF.wide (noOut_then (noOut_then (noOut_then (noOut_block hOut)))) rfl ?_
  refine l_q hT (q_move hT rfl) rfl rfl (by decide) ?_; clear hT; intro a hT
  refine l_q hT (q_geq hT rfl rfl) rfl rfl (by decide) ?_; clear hT; intro a hT
  refine l_end ?_
  refine then_norm ?_
  refine c_ifI hT rfl (fun hc1 => ?_) (fun hc1 => ?_)
  · skip
    have hc1 := of_decide_eq_true hc1
    have hkl : k < len := by omega
    obtain rfl : i = ((len - 1 - k : Nat) : Int) := by omega
    refine wpIn_skip ?_
    refine then_norm ?_
    refine c_seqI ?_
    refine wpIn_block ?_
    refine c_seqI ?_
    refine c_regionY ?_
    refine l_qI hT WF.wide (q_move hT rfl) rfl rfl (by decide) rfl ?_; clear hT; intro a hT
    refine l_qI hT WF.wide (q_move hT rfl) rfl rfl (by decide) rfl ?_; clear hT; intro a hT
    refine l_qI hT WF.wide (q_load hT rfl Tryd.ty27 (hL.rd 0 rfl 0 (ds := [(Value.slice p len cap)]) rfl)) rfl rfl (by decide) rfl ?_; clear hT; intro a hT
    refine l_qI hT WF.wide (q_move hT rfl) rfl rfl (by decide) rfl ?_; clear hT; intro a hT
    obtain ⟨sb1, so1, hp1, hrd1⟩ := (hsl).2 (by omega)
    refine l_qI hT WF.wide (q_indexAddr (b := sb1) (off := so1) (len := len) (cap := cap) hT (by rw [← hp1]; rfl) rfl Tryd.sli27 (by omega) (by omega)) rfl rfl (by decide) rfl ?_; clear hT; intro a hT
    refine l_qI hT WF.wide (q_load_agg hT rfl Tryd.ty24 (Rd.loc (hrd1 (len - 1 - k : Nat) (by omega)) hL (fun hm => Nat.lt_irrefl _ (Nat.lt_of_lt_of_le (hpB (by omega) _ hp1) (hBci _ hm)))) rfl) rfl rfl (by decide) rfl ?_; clear hT; intro a hT
    refine l_doI rfl (w_yield (xs := [.tmp 12, .tmp 16]) (vs := [(vI ((len - 1 - k : Nat) : Int)), (Value.agg (digC (ds.getD (len - 1 - k : Nat) Dig.zero)).toArray)]) hT WF.wide rfl rfl (by decide) (hy k _ _ _ hkl hJk (Loc.tail_of (own := [[(b, ob [(Value.slice p len cap)] 27)]]) (c := c) hL) rfl) ?_)
    rintro e w2 (⟨rfl, cj1, hJ1, hX⟩ | ⟨rfl, cx1, hJx1, hX⟩)
    · refine ⟨_, rfl, ?_⟩; clear hT; intro a hT; replace hT : Tm 19 a ((17, (Value.bool true)) :: _) := hT
      replace hL : Vg.Loc (keys ([[(b, ob [(Value.slice p len cap)] 27)]] ++ ci)) w0 w2 ([[(b, ob [(Value.slice p len cap)] 27)]] ++ cj1) := Loc.call_tail (own := [[(b, ob [(Value.slice p len cap)] 27)]]) hL hX
      refine l_qI hT WF.wide ((q_not hT rfl).b rfl) rfl rfl (by decide) rfl ?_; clear hT; intro a hT
      refine l_endI ?_
      refine then_norm ?_
      refine c_falseI hT rfl rfl ?_
      refine wpIn_skip ?_
      refine blk_norm ?_
      refine then_norm ?_
      refine c_regionI WF.wide (noOut_then (noOut_block hOut)) rfl ?_
      refine l_q hT (q_move hT rfl) rfl rfl (by decide) ?_; clear hT; intro a hT
      refine l_q hT (q_subI hT rfl rfl (r := ((len - 1 - k : Nat) : Int) - 1) rfl (by omega) (by omega)) rfl rfl (by decide) ?_; clear hT; intro a hT
      refine l_q hT (q_assign hT rfl) rfl rfl (by decide) ?_; clear hT; intro a hT
      refine l_end ?_
      refine then_norm ?_
      exact ⟨_, ⟨k + 1, _, _, rfl, by omega, by omega, hJ1, hT.keep [0, 1, 3] rfl, hL⟩, by simp only [id]; omega⟩
    · refine ⟨_, rfl, ?_⟩; clear hT; intro a hT; replace hT : Tm 19 a ((17, (Value.bool false)) :: _) := hT
      replace hL : Vg.Loc (keys ([[(b, ob [(Value.slice p len cap)] 27)]] ++ ci)) w0 w2 ([[(b, ob [(Value.slice p len cap)] 27)]] ++ cx1) := Loc.call_tail (own := [[(b, ob [(Value.slice p len cap)] 27)]]) hL hX
      refine l_qI hT WF.wide ((q_not hT rfl).b rfl) rfl rfl (by decide) rfl ?_; clear hT; intro a hT
      refine l_endI ?_
      refine then_norm ?_
      refine c_trueI hT rfl rfl ?_
      refine wpIn_ret ?_
      refine blk_ret ?_
      refine then_ret ?_
      refine then_ret ?_
      refine blk_ret ?_
      refine c_ret0 (vs := []) (rs := []) hT rfl .nil ?_
      exact ⟨⟨_, rfl⟩, .inr ⟨_, hJx1, Loc.tail_of hL⟩⟩
  · skip
    have hc1 := of_decide_eq_false hc1
    obtain rfl : k = len := by omega
    refine wpIn_exit ?_
    refine then_exit ?_
    refine then_exit ?_
    refine blk_exit ?_
    refine c_fall0 (vs := []) (rs := []) hT rfl .nil ?_
    exact ⟨⟨_, rfl⟩, .inl ⟨_, hJk, Loc.tail_of hL⟩⟩
end Go.Proofs.YtcaffacganffjaaDoor
end
