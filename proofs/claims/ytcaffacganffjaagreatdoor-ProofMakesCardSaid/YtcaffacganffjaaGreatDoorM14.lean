/- The walks of a part of the program: GSha3. Printed by a program of the prover. The walks of a part of the program: GSha4. Printed by a program of the prover. The walks of a part of the program: GSmt1. Printed by a program of the prover. -/
import Derived.Test.YtcaffacganffjaaGreatDoorM2
import Derived.Test.YtcaffacganffjaaGreatDoorM6
import Derived.Test.YtcaffacganffjaaGreatDoorM3
import Derived.Test.YtcaffacganffjaaGreatDoorM13

section
namespace Go.Proofs.YtcaffacganffjaaGreatDoor
open Go Go.Vg


set_option maxRecDepth 100000 in
set_option maxHeartbeats 4000000 in
theorem Write_spec (b : Nat) (h : Nat → UInt32) (buf : Nat → UInt8) (m bs : List UInt8) (p : Option Addr) (len cap : Nat) (w0 : World) (hK : KeysAt w0) (hb0 : 1 ∉ [b]) (hh : w0.heap[b]? = some (ob (arr32 8 h ++ (arr8 64 buf ++ ([(vI (m.length : Int))]))) 221)) (hok : HOk h buf m) (hsl : SlB w0 p len bs) (hds : 0 < len → ∀ ad : Addr, p = some ad → ad.block ∉ [b]) (hcl : len ≤ cap) (hbig : m.length + len < 4611686018427387904) :
    Calls Tryz.prog 133 #[(vp b 0), (Value.slice p len cap)] w0 fun e w' => ∃ h' buf', e = .returned (vI 0) ∧ Vg.Loc [b] w0 w' [[(b, ob (arr32 8 h' ++ (arr8 64 buf' ++ [vI ((m ++ bs).length : Int)])) 221)]] ∧ HOk h' buf' (m ++ bs) := by
  refine c_enter (n := 41) (args := [(vp b 0), (Value.slice p len cap)]) Tryz.func133 rfl rfl (Nat.le_of_ble_eq_true rfl) rfl (fun a hT => ?_)
  simp only [List.zipIdx_cons, List.zipIdx_nil, List.map_cons, List.map_nil, Nat.reduceAdd] at hT
  have hL := Vg.Loc.start1 hh
  have hlen : bs.length = len := hsl.1
  refine c_seq ?_
  refine c_region ?_
  refine l_q hT (q_assign hT rfl) rfl rfl (by decide) ?_; clear hT; intro a hT
  refine l_end ?_
  refine then_norm ?_
  refine c_seq ?_
  refine c_seq ?_
  refine c_region ?_
  refine l_q hT (q_move hT rfl) rfl rfl (by decide) ?_; clear hT; intro a hT
  refine l_q hT ((q_eq_nil hT rfl rfl Tryz.underlying168).b (b := false) rfl) rfl rfl (by decide) ?_; clear hT; intro a hT
  refine l_end ?_
  refine then_norm ?_
  refine c_false hT rfl rfl ?_
  refine wp_skip ?_
  refine then_norm ?_
  refine c_seq ?_
  refine wp_block ?_
  refine c_loop (fun mm a wz => ∃ (done : Nat) (h : Nat → UInt32) (buf : Nat → UInt8) (p' : Option Addr) (cap' : Nat), mm = bs.length - done ∧ done ≤ bs.length ∧ bs.length - done ≤ cap' ∧ HOk h buf (m ++ bs.take done) ∧ SlB w0 p' (bs.length - done) (bs.drop done) ∧ (0 < bs.length - done → ∀ ad : Addr, p' = some ad → ad.block ∉ [b]) ∧ Tm 41 a [(0, vp b 0), (1, .slice p' (bs.length - done) cap')] ∧ Vg.Loc [b] w0 wz [[(b, ob (arr32 8 h ++ (arr8 64 buf ++ ([(vI ((m.length + done : Nat) : Int))]))) 221)]]) id bs.length ?_ ?_
  · exact ⟨0, h, buf, p, cap, rfl, by omega, by omega, by simpa using hok, by simpa [hlen] using hsl, by simpa [hlen] using hds, by simpa [hlen] using hT.keep [0, 1] (E' := [(0, vp b 0), (1, .slice p len cap)]) rfl, by simpa using hL⟩
  clear hT hL
  rintro mz a w1 ⟨done, h, buf, p', cap', rfl, hdone, hcap, hok, hsl, hds, hT, hL⟩
  refine c_seq ?_
  refine c_seq ?_
  refine c_region ?_
  refine l_q hT (q_move hT rfl) rfl rfl (by decide) ?_; clear hT; intro a hT
  refine l_q hT (q_len_slice hT rfl Tryz.underlying154) rfl rfl (by decide) ?_; clear hT; intro a hT
  refine l_q hT (q_gtr hT rfl rfl) rfl rfl (by decide) ?_; clear hT; intro a hT
  refine l_end ?_
  refine then_norm ?_
  refine c_if hT rfl (fun hc1 => ?_) (fun hc1 => ?_)
  · skip
    have hc1 := of_decide_eq_true hc1
    refine wp_skip ?_
    refine then_norm ?_
    refine wp_block ?_
    refine c_seq ?_
    refine d_start' hL #[false, false, false, false, false, false, false, false, false, false, false, false] [10] rfl rfl rfl ?_; clear hL; intro w2 hL hE; have hR := hL; have hS := Ext.refl w2
    refine d_pure (i := 0) hT #[true, false, false, false, false, false, false, false, false, false, false, false] rfl (by kernel_rfl) rfl rfl (by decide) (fun _ _ _ h => h) (fun _ => q_move hT rfl) ?_; clear hT; intro a hT
    refine d_pure (i := 1) hT #[true, true, false, false, false, false, false, false, false, false, false, false] rfl (by kernel_rfl) rfl rfl (by decide) (fun _ _ _ h => h) (fun _ => q_nilCheck hT rfl) ?_; clear hT; intro a hT
    refine d_pure (i := 2) hT #[true, true, true, false, false, false, false, false, false, false, false, false] rfl (by kernel_rfl) rfl rfl (by decide) (fun _ _ _ h => h) (fun _ => q_fieldAddr hT rfl Tryz.fld221_1 rfl) ?_; clear hT; intro a hT
    refine d_pure (i := 3) hT #[true, true, true, true, false, false, false, false, false, false, false, false] rfl (by kernel_rfl) rfl rfl (by decide) (fun _ _ _ h => h) (fun _ => q_move hT rfl) ?_; clear hT; intro a hT
    refine d_pure (i := 4) hT #[true, true, true, true, true, false, false, false, false, false, false, false] rfl (by kernel_rfl) rfl rfl (by decide) (fun _ _ _ h => h) (fun _ => q_nilCheck hT rfl) ?_; clear hT; intro a hT
    refine d_pure (i := 5) hT #[true, true, true, true, true, true, false, false, false, false, false, false] rfl (by kernel_rfl) rfl rfl (by decide) (fun _ _ _ h => h) (fun _ => q_fieldAddr hT rfl Tryz.fld221_2 rfl) ?_; clear hT; intro a hT
    refine d_pure (i := 9) hT #[true, true, true, true, true, true, false, false, false, true, false, false] rfl (by kernel_rfl) rfl rfl (by decide) (fun _ _ _ h => h) (fun _ => q_move hT rfl) ?_; clear hT; intro a hT
    refine d_take (i := 6) hT #[true, true, true, true, true, true, true, false, false, true, false, false] rfl (by kernel_rfl) rfl rfl (by decide) (fun _ _ _ h => h) (fun _ hs => q_load hT rfl Tryz.ty3 (Rd.ext (hR.rd 0 rfl 72 (ds := [(vI ((m.length + done : Nat) : Int))]) rfl) hs)) hS ?_; clear hT; intro a hT
    refine d_pure (i := 7) hT #[true, true, true, true, true, true, true, true, false, true, false, false] rfl (by kernel_rfl) rfl rfl (by decide) (fun _ _ _ h => h) (fun _ => (q_remI hT rfl rfl (by omega) (by omega)).v (v := vI (((m.length + done) % 64 : Nat) : Int)) rfl) ?_; clear hT; intro a hT
    refine d_pure (i := 8) hT #[true, true, true, true, true, true, true, true, true, true, false, false] rfl (by kernel_rfl) rfl rfl (by decide) (fun _ _ _ h => h) (fun _ => q_slice_arr_lo (l := ((m.length + done) % 64 : Nat)) hT rfl rfl Tryz.arr195 (by omega)) ?_; clear hT; intro a hT
    refine d_one (i := 10) hT #[true, true, true, true, true, true, true, true, true, true, true, false] rfl (by kernel_rfl) rfl ?_
    obtain ⟨k1, hk1⟩ : ∃ k1, k1 = min (bs.length - done) (64 - ((m.length + done) % 64 : Nat)) := ⟨_, rfl⟩
    have hlk : ((bs.drop done).take k1).length = k1 := by rw [List.length_take, ((hsl.loc hL hds)).1]; omega
    refine w_copy (off := _) hT hL (by decide) 0 k1 (c := arr32 8 h ++ (arr8 64 buf ++ ([(vI ((m.length + done : Nat) : Int))]))) rfl rfl rfl Tryz.sli154 ((hsl.loc hL hds)) rfl hk1 (by simp [arr32_len, arr8_len, digC_len] <;> omega) (c' := arr32 8 h ++ (arr8 64 (over buf ((m.length + done) % 64 : Nat) ((bs.drop done).take k1)) ++ ([(vI ((m.length + done : Nat) : Int))]))) (lay_at (pre := arr32 8 h) (mid := arr8 64 buf) (post := [(vI ((m.length + done : Nat) : Int))]) (i := ((m.length + done) % 64 : Nat)) (by simp [digC_arr]) (by simp [arr32_len, arr8_len, digC_len]) (by simp [arr32_len, arr8_len, digC_len, byC] <;> omega) (lay_arr8 _ _ (by rw [hlk]; omega)) (by simp)) ?_; clear hT hL; intro a w3 hT hL hE
    replace hL : Vg.Loc [b] w0 w3 ([[(b, ob (arr32 8 h ++ (arr8 64 (over buf ((m.length + done) % 64 : Nat) ((bs.drop done).take k1)) ++ ([(vI ((m.length + done : Nat) : Int))]))) 221)]]) := hL
    refine ⟨fun hn => absurd (by decide) hn, ?_⟩
    refine d_pure (i := 11) hT #[true, true, true, true, true, true, true, true, true, true, true, true] rfl (by kernel_rfl) rfl rfl (by decide) (fun _ _ _ h => h) (fun _ => q_assign hT rfl) ?_; clear hT; intro a hT
    refine d_done (by kernel_rfl) ?_; clear hR hS
    refine then_norm ?_
    refine c_seq ?_
    refine c_region ?_
    refine l_q hT (q_move hT rfl) rfl rfl (by decide) ?_; clear hT; intro a hT
    refine l_q hT (q_nilCheck hT rfl) rfl rfl (by decide) ?_; clear hT; intro a hT
    refine l_q hT (q_fieldAddr hT rfl Tryz.fld221_2 rfl) rfl rfl (by decide) ?_; clear hT; intro a hT
    refine l_q hT (q_load hT rfl Tryz.ty3 (hL.rd 0 rfl 72 (ds := [(vI ((m.length + done : Nat) : Int))]) rfl)) rfl rfl (by decide) ?_; clear hT; intro a hT
    refine l_q hT (q_move hT rfl) rfl rfl (by decide) ?_; clear hT; intro a hT
    refine l_q hT ((q_addI hT rfl rfl (r := ((m.length + done : Nat) : Int) + (k1 : Int)) rfl (by omega) (by omega)).v (v := vI ((m.length + done + k1 : Nat) : Int)) (by congr 1)) rfl rfl (by decide) ?_; clear hT; intro a hT
    refine l_q hT (q_nilCheck hT rfl) rfl rfl (by decide) ?_; clear hT; intro a hT
    refine l_q hT (q_fieldAddr hT rfl Tryz.fld221_2 rfl) rfl rfl (by decide) ?_; clear hT; intro a hT
    refine l_do rfl ?_
    refine w_store hT hL 0 (c := arr32 8 h ++ (arr8 64 (over buf ((m.length + done) % 64 : Nat) ((bs.drop done).take k1)) ++ ([(vI ((m.length + done : Nat) : Int))]))) rfl rfl Tryz.ty3 rfl (vs := [(vI ((m.length + done + k1 : Nat) : Int))]) rfl rfl (by first | decide | (simp [arr32_len, arr8_len, digC_len]; done) | (simp [arr32_len, arr8_len, digC_len]; omega)) rfl (c' := arr32 8 h ++ (arr8 64 (over buf ((m.length + done) % 64 : Nat) ((bs.drop done).take k1)) ++ ([(vI ((m.length + done + k1 : Nat) : Int))]))) rfl ?_; clear hL; intro w4 hL hE
    replace hL : Vg.Loc [b] w0 w4 ([[(b, ob (arr32 8 h ++ (arr8 64 (over buf ((m.length + done) % 64 : Nat) ((bs.drop done).take k1)) ++ ([(vI ((m.length + done + k1 : Nat) : Int))]))) 221)]]) := hL
    refine l_end ?_
    refine then_norm ?_
    refine c_seq ?_
    refine c_region ?_
    refine l_q hT (q_move hT rfl) rfl rfl (by decide) ?_; clear hT; intro a hT
    refine l_q hT (q_move hT rfl) rfl rfl (by decide) ?_; clear hT; intro a hT
    refine l_q hT (q_slice_lo (l := k1) hT rfl rfl Tryz.sli154 (by omega)) rfl rfl (by decide) ?_; clear hT; intro a hT
    refine l_q hT (q_assign hT rfl) rfl rfl (by decide) ?_; clear hT; intro a hT
    refine l_end ?_
    refine then_norm ?_
    refine c_seq ?_
    refine c_region ?_
    refine l_q hT (q_move hT rfl) rfl rfl (by decide) ?_; clear hT; intro a hT
    refine l_q hT (q_nilCheck hT rfl) rfl rfl (by decide) ?_; clear hT; intro a hT
    refine l_q hT (q_fieldAddr hT rfl Tryz.fld221_2 rfl) rfl rfl (by decide) ?_; clear hT; intro a hT
    refine l_q hT (q_load hT rfl Tryz.ty3 (hL.rd 0 rfl 72 (ds := [(vI ((m.length + done + k1 : Nat) : Int))]) rfl)) rfl rfl (by decide) ?_; clear hT; intro a hT
    refine l_q hT ((q_remI hT rfl rfl (by omega) (by omega)).v (v := vI (((m.length + done + k1) % 64 : Nat) : Int)) rfl) rfl rfl (by decide) ?_; clear hT; intro a hT
    refine l_q hT (q_eql hT rfl rfl) rfl rfl (by decide) ?_; clear hT; intro a hT
    refine l_end ?_
    refine then_norm ?_
    refine c_if hT rfl (fun hc2 => ?_) (fun hc2 => ?_)
    · skip
      have hc2 := of_decide_eq_true hc2
      have htk : m ++ bs.take (done + k1) = (m ++ bs.take done) ++ (bs.drop done).take k1 := by rw [List.append_assoc, List.take_add]
      have hml : (m ++ bs.take done).length = m.length + done := by simp; omega
      have hrl : ((bs.drop done).take k1).length = k1 := hlk
      have hok := hok.full (l := (bs.drop done).take k1) (by omega) (by omega) (by omega)
      rw [hml] at hok
      have hds' : 0 < bs.length - done - k1 → ∀ ad : Addr, (if cap' = k1 then p' else p'.map (·.add (k1 * 1))) = some ad → ad.block ∉ [b] := SlB.lo_ne hds
      refine c_region ?_
      refine l_q hT (q_move hT rfl) rfl rfl (by decide) ?_; clear hT; intro a hT
      refine l_do rfl ?_
      refine w_callT (xs := [.tmp 39]) hT rfl (vs := [(vp b 0)]) rfl (args := #[(vp b 0)]) rfl Tryz.func172 rfl rfl (by decide) ((mix_spec b h (over buf ((m.length + done) % 64 : Nat) ((bs.drop done).take k1)) ((m.length + done + k1 : Nat) : Int) _ (hK.of hL hb0) hb0 (hL.get 0 rfl)).mono ?_)
      rintro e w5 ⟨rfl, hX⟩
      refine ⟨_, rfl, ?_⟩; clear hT; intro a hT; replace hT : Tm 41 a ((40, (Value.tuple #[])) :: _) := hT
      replace hL : Vg.Loc [b] w0 w5 ([[(b, ob (arr32 8 (mixF h (over buf ((m.length + done) % 64 : Nat) ((bs.drop done).take k1))) ++ (arr8 64 (over buf ((m.length + done) % 64 : Nat) ((bs.drop done).take k1)) ++ ([(vI ((m.length + done + k1 : Nat) : Int))]))) 221)]]) := Vg.Loc.call (ci := [[(b, ob (arr32 8 h ++ (arr8 64 (over buf ((m.length + done) % 64 : Nat) ((bs.drop done).take k1)) ++ ([(vI ((m.length + done + k1 : Nat) : Int))]))) 221)]]) (cr := []) hL hX
      refine l_end ?_
      refine blk_norm ?_
      refine then_norm ?_
      exact ⟨_, ⟨done + k1, _, _, _, (cap' - k1), rfl, by omega, by omega, by rw [htk]; exact hok, by simpa [Nat.sub_sub, List.drop_drop] using hsl.lo (l := k1) (by omega) hcap, by simpa [Nat.sub_sub] using hds', by simpa [Nat.sub_sub] using hT.keep [0, 1] (E' := [(0, vp b 0), (1, .slice (if cap' = k1 then p' else p'.map (·.add (k1 * 1))) (bs.length - done - k1) (cap' - k1))]) rfl, by simpa [Nat.add_assoc] using hL⟩, by simp only [id]; omega⟩
    · skip
      have hc2 := of_decide_eq_false hc2
      have htk : m ++ bs.take (done + k1) = (m ++ bs.take done) ++ (bs.drop done).take k1 := by rw [List.append_assoc, List.take_add]
      have hml : (m ++ bs.take done).length = m.length + done := by simp; omega
      have hrl : ((bs.drop done).take k1).length = k1 := hlk
      have hok := hok.more (l := (bs.drop done).take k1) (by omega) (by omega)
      rw [hml] at hok
      have hds' : 0 < bs.length - done - k1 → ∀ ad : Addr, (if cap' = k1 then p' else p'.map (·.add (k1 * 1))) = some ad → ad.block ∉ [b] := SlB.lo_ne hds
      refine wp_skip ?_
      refine blk_norm ?_
      refine then_norm ?_
      exact ⟨_, ⟨done + k1, _, _, _, (cap' - k1), rfl, by omega, by omega, by rw [htk]; exact hok, by simpa [Nat.sub_sub, List.drop_drop] using hsl.lo (l := k1) (by omega) hcap, by simpa [Nat.sub_sub] using hds', by simpa [Nat.sub_sub] using hT.keep [0, 1] (E' := [(0, vp b 0), (1, .slice (if cap' = k1 then p' else p'.map (·.add (k1 * 1))) (bs.length - done - k1) (cap' - k1))]) rfl, by simpa [Nat.add_assoc] using hL⟩, by simp only [id]; omega⟩
  · skip
    have hc1 := of_decide_eq_false hc1
    obtain rfl : done = bs.length := by omega
    refine wp_exit ?_
    refine then_exit ?_
    refine then_exit ?_
    refine blk_exit ?_
    refine then_norm ?_
    refine c_seq ?_
    refine c_region ?_
    refine l_q hT (q_assign hT rfl) rfl rfl (by decide) ?_; clear hT; intro a hT
    refine l_end ?_
    refine then_norm ?_
    refine wp_ret ?_
    refine c_ret (vs := [(vI 0)]) (rs := [.tmp 4]) hT rfl (.tmp rfl .nil) ?_
    exact ⟨_, _, rfl, by simpa using hL, by simpa using hok⟩
end Go.Proofs.YtcaffacganffjaaGreatDoor
end

section
namespace Go.Proofs.YtcaffacganffjaaGreatDoor
open Go Go.Vg


set_option maxRecDepth 100000 in
set_option maxHeartbeats 4000000 in
theorem Sum_spec (b : Nat) (h : Nat → UInt32) (buf : Nat → UInt8) (m : List UInt8) (w0 : World) (hK : KeysAt w0) (hh : w0.heap[b]? = some (ob (arr32 8 h ++ (arr8 64 buf ++ ([(vI (m.length : Int))]))) 221)) (hok : HOk h buf m) (hbig : m.length < 4611686018427380000) :
    Calls Tryz.prog 135 #[(vp b 0)] w0 fun e w' => e = .returned (dv (sha m)) ∧ Ext w0 w' := by
  refine c_enter (n := 63) (args := [(vp b 0)]) Tryz.func135 rfl rfl (Nat.le_of_ble_eq_true rfl) rfl (fun a hT => ?_)
  simp only [List.zipIdx_cons, List.zipIdx_nil, List.map_cons, List.map_nil, Nat.reduceAdd] at hT
  have hL := Vg.Loc.refl [] w0
  have hpl := padLen_lt m.length
  have hml : (m ++ [128]).length = m.length + 1 := by simp
  refine c_seq ?_
  refine c_region ?_
  refine l_do rfl ?_
  refine w_alloc hT hL (by decide) Tryz.ty24 ?_; clear hT hL; intro b1 a w1 hT hL hE hB
  refine l_end ?_
  refine then_norm ?_
  refine c_seq ?_
  refine c_region ?_
  refine l_do rfl ?_
  refine w_alloc hT hL (by decide) Tryz.ty24 ?_; clear hT hL; intro b2 a w2 hT hL hE hB
  refine l_end ?_
  refine then_norm ?_
  refine c_seq ?_
  refine c_seq ?_
  refine c_region ?_
  refine l_q hT (q_move hT rfl) rfl rfl (by decide) ?_; clear hT; intro a hT
  refine l_q hT ((q_eq_nil hT rfl rfl Tryz.underlying168).b (b := false) rfl) rfl rfl (by decide) ?_; clear hT; intro a hT
  refine l_end ?_
  refine then_norm ?_
  refine c_false hT rfl rfl ?_
  refine wp_skip ?_
  refine then_norm ?_
  refine c_seq ?_
  refine c_region ?_
  refine l_q hT (q_move hT rfl) rfl rfl (by decide) ?_; clear hT; intro a hT
  refine l_q hT (q_nilCheck hT rfl) rfl rfl (by decide) ?_; clear hT; intro a hT
  refine l_q hT (q_load_agg hT rfl Tryz.ty221 (Rd.mk (c := arr32 8 h ++ (arr8 64 buf ++ ([(vI (m.length : Int))]))) (cs := arr32 8 h ++ (arr8 64 buf ++ ([(vI (m.length : Int))]))) (hL.kept hh (by simp)) rfl) rfl) rfl rfl (by decide) ?_; clear hT; intro a hT
  refine l_do rfl ?_
  refine w_alloc hT hL (by decide) Tryz.ty221 ?_; clear hT hL; intro b3 a w3 hT hL hE hB
  refine l_do rfl ?_
  refine w_store hT hL 0 (c := arr32 8 (fun _ => 0) ++ (arr8 64 (fun _ => 0) ++ ([(vI 0)]))) rfl rfl Tryz.ty221 rfl (vs := arr32 8 h ++ (arr8 64 buf ++ ([(vI (m.length : Int))]))) rfl rfl (by first | decide | (simp [arr32_len, arr8_len, digC_len]; done) | (simp [arr32_len, arr8_len, digC_len]; omega)) rfl (c' := arr32 8 h ++ (arr8 64 buf ++ ([(vI (m.length : Int))]))) rfl ?_; clear hL; intro w4 hL hE
  replace hL : Vg.Loc [] w0 w4 ([[(b3, ob (arr32 8 h ++ (arr8 64 buf ++ ([(vI (m.length : Int))]))) 221)], [(b2, ob (digC Dig.zero) 24)], [(b1, ob (digC Dig.zero) 24)]]) := hL
  refine l_end ?_
  refine then_norm ?_
  refine c_seq ?_
  refine c_region ?_
  refine l_do rfl ?_
  refine w_buildSlice (e := 5) (ps := [(0, .const (.int .u8 128))]) (pv := [(0, (v8 128))]) (c := [(v8 128)]) hT hL (by decide) rfl (fun _ => by kernel_rfl) ?_; clear hT hL; intro b4 a w5 hT hL hE hB
  refine l_do rfl ?_
  replace hL : Vg.Loc [] w0 w5 ([[(b3, ob (arr32 8 h ++ (arr8 64 buf ++ ([(vI (m.length : Int))]))) 221)], [(b4, ob [(v8 128)] 5)], [(b2, ob (digC Dig.zero) 24)], [(b1, ob (digC Dig.zero) 24)]]) := hL.front 1 rfl rfl
  refine w_callT (xs := [.tmp 4, .tmp 15]) hT rfl (vs := [(vp b3 0), (Value.slice (some ⟨b4, 0, none⟩) 1 1)]) rfl (args := #[(vp b3 0), (Value.slice (some ⟨b4, 0, none⟩) 1 1)]) rfl Tryz.func133 rfl rfl (by decide) ((Write_spec b3 h buf (m) [128] (some ⟨b4, 0, none⟩) 1 1 _ (hK.of hL (by simp)) (by simp; have := hK.lt; have := hL.fresh 0 rfl; omega) (hL.get 0 rfl) hok (SlB.of (hL.rd 1 rfl 0 (ds := byC [128]) rfl)) (fun _ ad hp => by cases hp; have := hL.ne 0 1 (by decide) rfl rfl; simp; exact fun e => this e.symm) (by omega) (by first | omega | (simp; omega))).mono ?_)
  rintro e w6 ⟨hw1, fw1, rfl, hX, hok1⟩
  refine ⟨_, rfl, ?_⟩; clear hT; intro a hT; replace hT : Tm 63 a ((16, (vI 0)) :: _) := hT
  replace hL : Vg.Loc [] w0 w6 ([[(b3, ob (arr32 8 hw1 ++ (arr8 64 fw1 ++ ([(vI ((m ++ [128]).length : Int))]))) 221)], [(b4, ob [(v8 128)] 5)], [(b2, ob (digC Dig.zero) 24)], [(b1, ob (digC Dig.zero) 24)]]) := Vg.Loc.call (ci := [[(b3, ob (arr32 8 h ++ (arr8 64 buf ++ ([(vI (m.length : Int))]))) 221)]]) (cr := [[(b4, ob [(v8 128)] 5)], [(b2, ob (digC Dig.zero) 24)], [(b1, ob (digC Dig.zero) 24)]]) hL hX
  refine l_end ?_
  refine then_norm ?_
  refine c_seq ?_
  refine c_region ?_
  refine l_do rfl ?_
  refine w_alloc hT hL (by decide) Tryz.ty222 ?_; clear hT hL; intro b5 a w7 hT hL hE hB
  refine l_end ?_
  refine then_norm ?_
  refine c_seq ?_
  refine c_region ?_
  refine l_q hT (q_fieldAddr hT rfl Tryz.fld221_2 rfl) rfl rfl (by decide) ?_; clear hT; intro a hT
  refine l_q hT (q_load hT rfl Tryz.ty3 (hL.rd 1 rfl 72 (ds := [(vI ((m ++ [128]).length : Int))]) rfl)) rfl rfl (by decide) ?_; clear hT; intro a hT
  refine l_q hT ((q_remI hT rfl rfl (by omega) (by omega)).v (v := vI (((m ++ [128]).length % 64 : Nat) : Int)) rfl) rfl rfl (by decide) ?_; clear hT; intro a hT
  refine l_q hT ((q_subI hT rfl rfl (r := 120 - (((m ++ [128]).length % 64 : Nat) : Int)) rfl (by omega) (by omega)).v (v := vI ((120 - (m ++ [128]).length % 64 : Nat) : Int)) (by congr 1; omega)) rfl rfl (by decide) ?_; clear hT; intro a hT
  refine l_q hT ((q_remI hT rfl rfl (by omega) (by omega)).v (v := vI ((padLen m.length : Nat) : Int)) (by simp [padLen])) rfl rfl (by decide) ?_; clear hT; intro a hT
  refine l_q hT (q_assign hT rfl) rfl rfl (by decide) ?_; clear hT; intro a hT
  refine l_end ?_
  refine then_norm ?_
  refine c_seq ?_
  refine c_seq ?_
  refine c_region ?_
  refine l_q hT (q_move hT rfl) rfl rfl (by decide) ?_; clear hT; intro a hT
  refine l_end ?_
  refine then_norm ?_
  refine wp_block ?_
  refine c_loop (fun mz a wz => ∃ t : Nat, mz = 8 - t ∧ t ≤ 8 ∧ Tm 63 a [(22, (vI (t : Int))), (0, (vp b 0)), (2, (vp b1 0)), (3, (vp b2 0)), (4, (vp b3 0)), (5, (vp b5 0)), (6, (vI ((padLen m.length : Nat) : Int)))] ∧ Vg.Loc [] w0 wz [[(b5, ob (arr8 72 (tailTo m.length t)) 222)], [(b3, ob (arr32 8 hw1 ++ (arr8 64 fw1 ++ ([(vI ((m ++ [128]).length : Int))]))) 221)], [(b4, ob [(v8 128)] 5)], [(b2, ob (digC Dig.zero) 24)], [(b1, ob (digC Dig.zero) 24)]]) id 8 ?_ ?_
  · exact ⟨0, rfl, by omega, hT.keep [22, 0, 2, 3, 4, 5, 6] rfl, by rw [tailTo_zero]; exact hL⟩
  clear hT hL
  rintro mz a w8 ⟨t, rfl, ht, hT, hL⟩
  refine c_seq ?_
  refine c_region ?_
  refine l_q hT (q_lss hT rfl rfl) rfl rfl (by decide) ?_; clear hT; intro a hT
  refine l_end ?_
  refine then_norm ?_
  refine c_seq ?_
  refine c_if hT rfl (fun hc1 => ?_) (fun hc1 => ?_)
  · skip
    have hc1 := of_decide_eq_true hc1
    refine wp_skip ?_
    refine then_norm ?_
    refine c_seq ?_
    refine wp_block ?_
    refine c_seq ?_
    refine c_region ?_
    refine l_q hT (q_move hT rfl) rfl rfl (by decide) ?_; clear hT; intro a hT
    refine l_q hT (q_assign hT rfl) rfl rfl (by decide) ?_; clear hT; intro a hT
    refine l_end ?_
    refine then_norm ?_
    refine c_region ?_
    refine l_q hT (q_move hT rfl) rfl rfl (by decide) ?_; clear hT; intro a hT
    refine l_q hT (q_move hT rfl) rfl rfl (by decide) ?_; clear hT; intro a hT
    refine l_q hT ((q_addI hT rfl rfl (r := ((padLen m.length : Nat) : Int) + (t : Int)) rfl (by omega) (by omega)).v (v := vI ((padLen m.length + t : Nat) : Int)) (by congr 1)) rfl rfl (by decide) ?_; clear hT; intro a hT
    refine l_q hT (q_move hT rfl) rfl rfl (by decide) ?_; clear hT; intro a hT
    refine l_q hT (q_nilCheck hT rfl) rfl rfl (by decide) ?_; clear hT; intro a hT
    refine l_q hT (q_fieldAddr hT rfl Tryz.fld221_2 rfl) rfl rfl (by decide) ?_; clear hT; intro a hT
    refine l_q hT (q_load hT rfl Tryz.ty3 ((Rd.mk (c := arr32 8 h ++ (arr8 64 buf ++ ([(vI (m.length : Int))]))) (cs := arr32 8 h ++ (arr8 64 buf ++ ([(vI (m.length : Int))]))) (hL.kept hh (by simp)) rfl).part 72 (ds := [(vI (m.length : Int))]) rfl)) rfl rfl (by decide) ?_; clear hT; intro a hT
    refine l_q hT (q_conv_i_64 (u := m.length) hT rfl Tryz.underlying3 Tryz.underlying223) rfl rfl (by decide) ?_; clear hT; intro a hT
    refine l_q hT (q_mul64 (u := UInt64.ofNat m.length) (v := 8) hT rfl rfl) rfl rfl (by decide) ?_; clear hT; intro a hT
    refine l_q hT (q_move hT rfl) rfl rfl (by decide) ?_; clear hT; intro a hT
    refine l_q hT (q_mulI hT rfl rfl (r := 8 * (t : Int)) rfl (by omega) (by omega)) rfl rfl (by decide) ?_; clear hT; intro a hT
    refine l_q hT ((q_subI hT rfl rfl (r := 56 - 8 * (t : Int)) rfl (by omega) (by omega)).v (v := vI ((56 - 8 * t : Nat) : Int)) (by congr 1; omega)) rfl rfl (by decide) ?_; clear hT; intro a hT
    refine l_q hT (q_shr64 (u := (UInt64.ofNat m.length) * 8) (s := (56 - 8 * t : Nat)) hT rfl rfl (by omega)) rfl rfl (by decide) ?_; clear hT; intro a hT
    refine l_q hT (q_conv_64_8 hT rfl Tryz.underlying223 Tryz.underlying5) rfl rfl (by decide) ?_; clear hT; intro a hT
    refine l_q hT ((q_indexAddr_arr hT rfl rfl Tryz.arr222 (by omega) (by omega)).v (v := vp b5 (0 + (padLen m.length + t : Nat))) (by simp)) rfl rfl (by decide) ?_; clear hT; intro a hT
    refine l_do rfl ?_
    refine w_store hT hL 0 (c := arr8 72 (tailTo m.length t)) rfl rfl Tryz.ty5 rfl (vs := [(v8 ((shr64 ((UInt64.ofNat m.length) * 8) (56 - 8 * t : Nat)).toUInt8))]) rfl rfl (by simp [arr32_len, arr8_len, digC_len]; omega) rfl (c' := arr8 72 (upd (tailTo m.length t) (padLen m.length + t : Nat) ((shr64 ((UInt64.ofNat m.length) * 8) (56 - 8 * t : Nat)).toUInt8))) (lay_at (pre := []) (mid := arr8 72 (tailTo m.length t)) (post := []) (i := (padLen m.length + t : Nat)) (by simp [digC_arr]) (by simp [arr32_len, arr8_len, digC_len]) (by simp [arr32_len, arr8_len, digC_len]; omega) (lay_arr8_one _ _ (by omega)) (by simp)) ?_; clear hL; intro w9 hL hE
    replace hL : Vg.Loc [] w0 w9 ([[(b5, ob (arr8 72 (upd (tailTo m.length t) (padLen m.length + t : Nat) ((shr64 ((UInt64.ofNat m.length) * 8) (56 - 8 * t : Nat)).toUInt8))) 222)], [(b3, ob (arr32 8 hw1 ++ (arr8 64 fw1 ++ ([(vI ((m ++ [128]).length : Int))]))) 221)], [(b4, ob [(v8 128)] 5)], [(b2, ob (digC Dig.zero) 24)], [(b1, ob (digC Dig.zero) 24)]]) := hL
    refine l_end ?_
    refine blk_norm ?_
    refine then_norm ?_
    refine c_region ?_
    refine l_q hT (q_addI hT rfl rfl (r := (t : Int) + 1) rfl (by omega) (by omega)) rfl rfl (by decide) ?_; clear hT; intro a hT
    refine l_q hT (q_move hT rfl) rfl rfl (by decide) ?_; clear hT; intro a hT
    refine l_end ?_
    refine then_norm ?_
    exact ⟨_, ⟨t + 1, rfl, by omega, hT.keep [22, 0, 2, 3, 4, 5, 6] rfl, by rw [tailTo_succ]; exact hL⟩, by simp only [id]; omega⟩
  · skip
    have hc1 := of_decide_eq_false hc1
    obtain rfl : t = 8 := by omega
    refine wp_exit ?_
    refine then_exit ?_
    refine then_exit ?_
    refine blk_exit ?_
    refine then_norm ?_
    refine c_seq ?_
    refine c_region ?_
    refine l_q hT (q_move hT rfl) rfl rfl (by decide) ?_; clear hT; intro a hT
    refine l_q hT ((q_addI hT rfl rfl (r := ((padLen m.length : Nat) : Int) + 8) rfl (by omega) (by omega)).v (v := vI ((padLen m.length + 8 : Nat) : Int)) (by congr 1)) rfl rfl (by decide) ?_; clear hT; intro a hT
    refine l_q hT (q_slice_arr_hi (h := (padLen m.length + 8)) hT rfl rfl Tryz.arr222 (by omega) (by omega)) rfl rfl (by decide) ?_; clear hT; intro a hT
    refine l_do rfl ?_
    replace hL : Vg.Loc [] w0 w8 ([[(b3, ob (arr32 8 hw1 ++ (arr8 64 fw1 ++ ([(vI ((m ++ [128]).length : Int))]))) 221)], [(b5, ob (arr8 72 (tailTo m.length 8)) 222)], [(b4, ob [(v8 128)] 5)], [(b2, ob (digC Dig.zero) 24)], [(b1, ob (digC Dig.zero) 24)]]) := hL.front 1 rfl rfl
    refine w_callT (xs := [.tmp 4, .tmp 43]) hT rfl (vs := [(vp b3 0), (Value.slice (some ⟨b5, 0, none⟩) (padLen m.length + 8) 72)]) rfl (args := #[(vp b3 0), (Value.slice (some ⟨b5, 0, none⟩) (padLen m.length + 8) 72)]) rfl Tryz.func133 rfl rfl (by decide) ((Write_spec b3 hw1 fw1 (m ++ [128]) (List.replicate (padLen m.length) 0 ++ lenBytes m.length) (some ⟨b5, 0, none⟩) (padLen m.length + 8) 72 _ (hK.of hL (by simp)) (by simp; have := hK.lt; have := hL.fresh 0 rfl; omega) (hL.get 0 rfl) hok1 (tail_sl (hL.rd 1 rfl 0 (ds := arr8 72 (tailTo m.length 8)) rfl)) (fun _ ad hp => by cases hp; have := hL.ne 0 1 (by decide) rfl rfl; simp; exact fun e => this e.symm) (by omega) (by first | omega | (simp; omega))).mono ?_)
    rintro e w10 ⟨hw2, fw2, rfl, hX, hok2⟩
    refine ⟨_, rfl, ?_⟩; clear hT; intro a hT; replace hT : Tm 63 a ((44, (vI 0)) :: _) := hT
    replace hL : Vg.Loc [] w0 w10 ([[(b3, ob (arr32 8 hw2 ++ (arr8 64 fw2 ++ ([(vI ((m ++ [128] ++ (List.replicate (padLen m.length) 0 ++ lenBytes m.length)).length : Int))]))) 221)], [(b5, ob (arr8 72 (tailTo m.length 8)) 222)], [(b4, ob [(v8 128)] 5)], [(b2, ob (digC Dig.zero) 24)], [(b1, ob (digC Dig.zero) 24)]]) := Vg.Loc.call (ci := [[(b3, ob (arr32 8 hw1 ++ (arr8 64 fw1 ++ ([(vI ((m ++ [128]).length : Int))]))) 221)]]) (cr := [[(b5, ob (arr8 72 (tailTo m.length 8)) 222)], [(b4, ob [(v8 128)] 5)], [(b2, ob (digC Dig.zero) 24)], [(b1, ob (digC Dig.zero) 24)]]) hL hX
    refine l_end ?_
    refine then_norm ?_
    refine c_seq ?_
    refine c_seq ?_
    refine c_region ?_
    refine l_q hT (q_move hT rfl) rfl rfl (by decide) ?_; clear hT; intro a hT
    refine l_end ?_
    refine then_norm ?_
    refine wp_block ?_
    refine c_loop (fun mz a wz => ∃ t : Nat, mz = 32 - t ∧ t ≤ 32 ∧ Tm 63 a [(45, (vI (t : Int))), (2, (vp b1 0)), (3, (vp b2 0)), (4, (vp b3 0))] ∧ Vg.Loc [] w0 wz [[(b3, ob (arr32 8 hw2 ++ (arr8 64 fw2 ++ ([(vI ((m ++ [128] ++ (List.replicate (padLen m.length) 0 ++ lenBytes m.length)).length : Int))]))) 221)], [(b5, ob (arr8 72 (tailTo m.length 8)) 222)], [(b4, ob [(v8 128)] 5)], [(b2, ob (arr8 32 (digTo hw2 t)) 24)], [(b1, ob (digC Dig.zero) 24)]]) id 32 ?_ ?_
    · exact ⟨0, rfl, by omega, hT.keep [45, 2, 3, 4] rfl, by rw [← digTo_zero]; exact hL⟩
    clear hT hL
    rintro mz a w11 ⟨t, rfl, ht, hT, hL⟩
    refine c_seq ?_
    refine c_region ?_
    refine l_q hT (q_lss hT rfl rfl) rfl rfl (by decide) ?_; clear hT; intro a hT
    refine l_end ?_
    refine then_norm ?_
    refine c_seq ?_
    refine c_if hT rfl (fun hc2 => ?_) (fun hc2 => ?_)
    · skip
      have hc2 := of_decide_eq_true hc2
      refine wp_skip ?_
      refine then_norm ?_
      refine c_seq ?_
      refine wp_block ?_
      refine c_seq ?_
      refine c_region ?_
      refine l_q hT (q_move hT rfl) rfl rfl (by decide) ?_; clear hT; intro a hT
      refine l_q hT (q_assign hT rfl) rfl rfl (by decide) ?_; clear hT; intro a hT
      refine l_end ?_
      refine then_norm ?_
      refine c_region ?_
      refine l_q hT (q_move hT rfl) rfl rfl (by decide) ?_; clear hT; intro a hT
      refine l_q hT (q_move hT rfl) rfl rfl (by decide) ?_; clear hT; intro a hT
      refine l_q hT ((q_quoI hT rfl rfl (by omega) (by omega) (by omega)).v (v := vI ((t / 4 : Nat) : Int)) rfl) rfl rfl (by decide) ?_; clear hT; intro a hT
      refine l_q hT (q_fieldAddr hT rfl Tryz.fld221_0 rfl) rfl rfl (by decide) ?_; clear hT; intro a hT
      refine l_q hT ((q_indexAddr_arr hT rfl rfl Tryz.arr189 (by omega) (by omega)).v (v := vp b3 (0 + (t / 4 : Nat))) (by simp)) rfl rfl (by decide) ?_; clear hT; intro a hT
      refine l_q hT (q_load hT rfl Tryz.ty188 (Rd.at32 (hL.rd 0 rfl 0 (ds := arr32 8 hw2) rfl) (i := (t / 4 : Nat)) (by omega))) rfl rfl (by decide) ?_; clear hT; intro a hT
      refine l_q hT (q_move hT rfl) rfl rfl (by decide) ?_; clear hT; intro a hT
      refine l_q hT ((q_remI hT rfl rfl (by omega) (by omega)).v (v := vI ((t % 4 : Nat) : Int)) rfl) rfl rfl (by decide) ?_; clear hT; intro a hT
      refine l_q hT (q_mulI hT rfl rfl (r := 8 * ((t % 4 : Nat) : Int)) rfl (by omega) (by omega)) rfl rfl (by decide) ?_; clear hT; intro a hT
      refine l_q hT ((q_subI hT rfl rfl (r := 24 - 8 * ((t % 4 : Nat) : Int)) rfl (by omega) (by omega)).v (v := vI ((24 - 8 * (t % 4) : Nat) : Int)) (by congr 1; omega)) rfl rfl (by decide) ?_; clear hT; intro a hT
      refine l_q hT (q_shr32 (u := hw2 (t / 4 : Nat)) (s := (24 - 8 * (t % 4) : Nat)) hT rfl rfl (by omega)) rfl rfl (by decide) ?_; clear hT; intro a hT
      refine l_q hT (q_conv_32_8 hT rfl Tryz.underlying188 Tryz.underlying5) rfl rfl (by decide) ?_; clear hT; intro a hT
      refine l_q hT ((q_indexAddr_arr hT rfl rfl Tryz.arr24 (by omega) (by omega)).v (v := vp b2 (0 + t)) (by simp)) rfl rfl (by decide) ?_; clear hT; intro a hT
      refine l_do rfl ?_
      refine w_store hT hL 3 (c := arr8 32 (digTo hw2 t)) rfl rfl Tryz.ty5 rfl (vs := [(v8 ((shr32 (hw2 (t / 4 : Nat)) (24 - 8 * (t % 4) : Nat)).toUInt8))]) rfl rfl (by simp [arr32_len, arr8_len, digC_len]; omega) rfl (c' := arr8 32 (upd (digTo hw2 t) t ((shr32 (hw2 (t / 4 : Nat)) (24 - 8 * (t % 4) : Nat)).toUInt8))) (lay_at (pre := []) (mid := arr8 32 (digTo hw2 t)) (post := []) (i := t) (by simp [digC_arr]) (by simp [arr32_len, arr8_len, digC_len]) (by simp [arr32_len, arr8_len, digC_len]; omega) (lay_arr8_one _ _ (by omega)) (by simp)) ?_; clear hL; intro w12 hL hE
      replace hL : Vg.Loc [] w0 w12 ([[(b3, ob (arr32 8 hw2 ++ (arr8 64 fw2 ++ ([(vI ((m ++ [128] ++ (List.replicate (padLen m.length) 0 ++ lenBytes m.length)).length : Int))]))) 221)], [(b5, ob (arr8 72 (tailTo m.length 8)) 222)], [(b4, ob [(v8 128)] 5)], [(b2, ob (arr8 32 (upd (digTo hw2 t) t ((shr32 (hw2 (t / 4 : Nat)) (24 - 8 * (t % 4) : Nat)).toUInt8))) 24)], [(b1, ob (digC Dig.zero) 24)]]) := hL
      refine l_end ?_
      refine blk_norm ?_
      refine then_norm ?_
      refine c_region ?_
      refine l_q hT (q_addI hT rfl rfl (r := (t : Int) + 1) rfl (by omega) (by omega)) rfl rfl (by decide) ?_; clear hT; intro a hT
      refine l_q hT (q_move hT rfl) rfl rfl (by decide) ?_; clear hT; intro a hT
      refine l_end ?_
      refine then_norm ?_
      exact ⟨_, ⟨t + 1, rfl, by omega, hT.keep [45, 2, 3, 4] rfl, by rw [digTo_succ]; exact hL⟩, by simp only [id]; omega⟩
    · skip
      have hc2 := of_decide_eq_false hc2
      obtain rfl : t = 32 := by omega
      refine wp_exit ?_
      refine then_exit ?_
      refine then_exit ?_
      refine blk_exit ?_
      refine then_norm ?_
      refine c_seq ?_
      refine c_region ?_
      refine l_q hT (q_load_agg hT rfl Tryz.ty24 (hL.rd 3 rfl 0 (ds := arr8 32 (digTo hw2 32)) rfl) rfl) rfl rfl (by decide) ?_; clear hT; intro a hT
      refine l_do rfl ?_
      refine w_store hT hL 4 (c := digC Dig.zero) rfl rfl Tryz.ty24 rfl (vs := arr8 32 (digTo hw2 32)) rfl rfl (by first | decide | (simp [arr32_len, arr8_len, digC_len]; done) | (simp [arr32_len, arr8_len, digC_len]; omega)) rfl (c' := arr8 32 (digTo hw2 32)) rfl ?_; clear hL; intro w13 hL hE
      replace hL : Vg.Loc [] w0 w13 ([[(b3, ob (arr32 8 hw2 ++ (arr8 64 fw2 ++ ([(vI ((m ++ [128] ++ (List.replicate (padLen m.length) 0 ++ lenBytes m.length)).length : Int))]))) 221)], [(b5, ob (arr8 72 (tailTo m.length 8)) 222)], [(b4, ob [(v8 128)] 5)], [(b2, ob (arr8 32 (digTo hw2 32)) 24)], [(b1, ob (arr8 32 (digTo hw2 32)) 24)]]) := hL
      refine l_end ?_
      refine then_norm ?_
      refine wp_ret ?_
      refine c_ret (vs := [(Value.agg (arr8 32 (digTo hw2 32)).toArray)]) (rs := [.cell 2 24]) hT rfl (.agg rfl Tryz.ty24 (hL.rd 4 rfl 0 (ds := arr8 32 (digTo hw2 32)) rfl) rfl .nil) ?_
      refine ⟨?_, hL.drop⟩
      have hw := hok2.words
      simp only [packed]
      rw [digTo_all, hw]; rfl
end Go.Proofs.YtcaffacganffjaaGreatDoor
end

section
namespace Go.Proofs.YtcaffacganffjaaGreatDoor
open Go Go.Vg


set_option maxRecDepth 20000 in
set_option maxHeartbeats 1000000 in
theorem shaSum_spec (bs : List UInt8) (p : Option Addr) (len cap : Nat) (w0 : World) (hK : KeysAt w0) (hsl : SlB w0 p len bs) (hcl : len ≤ cap) (hbig : len < 4611686018427370000) :
    Calls Tryz.prog 113 #[(Value.slice p len cap)] w0 fun e w' => e = .returned (dv (sha bs)) ∧ Ext w0 w' := by
  refine c_enter (n := 10) (args := [(Value.slice p len cap)]) Tryz.func113 rfl rfl (Nat.le_of_ble_eq_true rfl) rfl (fun a hT => ?_)
  simp only [List.zipIdx_cons, List.zipIdx_nil, List.map_cons, List.map_nil, Nat.reduceAdd] at hT
  have hL := Vg.Loc.refl [] w0
  have hlen : bs.length = len := hsl.1
  refine c_seq ?_
  refine c_region ?_
  refine l_do rfl ?_
  refine w_alloc hT hL (by decide) Tryz.ty24 ?_; clear hT hL; intro b1 a w1 hT hL hE hB
  refine l_end ?_
  refine then_norm ?_
  refine c_seq ?_
  refine c_region ?_
  refine l_do rfl ?_
  refine w_callT (xs := []) hT rfl (vs := []) rfl (args := #[]) rfl Tryz.func132 rfl rfl (by decide) ((New_spec _).mono ?_)
  rintro e w2 ⟨bh1, rfl, hX⟩
  refine ⟨_, rfl, ?_⟩; clear hT; intro a hT; replace hT : Tm 10 a ((4, (vp bh1 0)) :: _) := hT
  replace hL : Vg.Loc [] w0 w2 ([[(bh1, ob (arr32 8 ivF ++ (arr8 64 (fun _ => 0) ++ ([(vI 0)]))) 221)], [(b1, ob (digC Dig.zero) 24)]]) := hL.exts hX
  refine l_q hT (q_assign hT rfl) rfl rfl (by decide) ?_; clear hT; intro a hT
  refine l_end ?_
  refine then_norm ?_
  refine c_seq ?_
  refine c_region ?_
  refine l_q hT (q_move hT rfl) rfl rfl (by decide) ?_; clear hT; intro a hT
  refine l_q hT (q_move hT rfl) rfl rfl (by decide) ?_; clear hT; intro a hT
  refine l_do rfl ?_
  refine w_callT (xs := [.tmp 5, .tmp 6]) hT rfl (vs := [(vp bh1 0), (Value.slice p len cap)]) rfl (args := #[(vp bh1 0), (Value.slice p len cap)]) rfl Tryz.func133 rfl rfl (by decide) ((Write_spec bh1 ivF (fun _ => 0) ([]) bs p len cap _ (hK.of hL (by simp)) (by simp; have := hK.lt; have := hL.fresh 0 rfl; omega) (hL.get 0 rfl) HOk.new (hsl.ext hL) (fun h0 ad hp hm => by simp at hm; have := hsl.lt h0 hp; have := hL.fresh 0 rfl; omega) (by omega) (by first | omega | (simp; omega))).mono ?_)
  rintro e w3 ⟨hw1, fw1, rfl, hX, hok1⟩
  refine ⟨_, rfl, ?_⟩; clear hT; intro a hT; replace hT : Tm 10 a ((7, (vI 0)) :: _) := hT
  replace hL : Vg.Loc [] w0 w3 ([[(bh1, ob (arr32 8 hw1 ++ (arr8 64 fw1 ++ ([(vI (([] ++ bs).length : Int))]))) 221)], [(b1, ob (digC Dig.zero) 24)]]) := Vg.Loc.call (ci := [[(bh1, ob (arr32 8 ivF ++ (arr8 64 (fun _ => 0) ++ ([(vI 0)]))) 221)]]) (cr := [[(b1, ob (digC Dig.zero) 24)]]) hL hX
  refine l_end ?_
  refine then_norm ?_
  refine c_seq ?_
  refine c_region ?_
  refine l_q hT (q_move hT rfl) rfl rfl (by decide) ?_; clear hT; intro a hT
  refine l_do rfl ?_
  refine w_callT (xs := [.tmp 8]) hT rfl (vs := [(vp bh1 0)]) rfl (args := #[(vp bh1 0)]) rfl Tryz.func135 rfl rfl (by decide) ((Sum_spec bh1 hw1 fw1 ([] ++ bs) _ (hK.of hL (by simp)) (hL.get 0 rfl) hok1 (by first | omega | (simp; omega))).mono ?_)
  rintro e w4 ⟨rfl, hX⟩
  refine ⟨_, rfl, ?_⟩; clear hT; intro a hT; replace hT : Tm 10 a ((9, (Value.agg (digC (sha ([] ++ bs))).toArray)) :: _) := hT
  replace hL := hL.ext hX
  refine l_do rfl ?_
  refine w_store hT hL 1 (c := digC Dig.zero) rfl rfl Tryz.ty24 rfl (vs := digC (sha ([] ++ bs))) rfl rfl (by first | decide | (simp [arr32_len, arr8_len, digC_len]; done) | (simp [arr32_len, arr8_len, digC_len]; omega)) rfl (c' := digC (sha ([] ++ bs))) rfl ?_; clear hL; intro w5 hL hE
  replace hL : Vg.Loc [] w0 w5 ([[(bh1, ob (arr32 8 hw1 ++ (arr8 64 fw1 ++ ([(vI (([] ++ bs).length : Int))]))) 221)], [(b1, ob (digC (sha ([] ++ bs))) 24)]]) := hL
  refine l_end ?_
  refine then_norm ?_
  refine wp_ret ?_
  refine c_ret (vs := [(Value.agg (digC (sha ([] ++ bs))).toArray)]) (rs := [.cell 2 24]) hT rfl (.agg rfl Tryz.ty24 (hL.rd 1 rfl 0 (ds := digC (sha ([] ++ bs))) rfl) rfl .nil) ?_
  exact ⟨rfl, hL.drop⟩

set_option maxRecDepth 20000 in
set_option maxHeartbeats 1000000 in
theorem width_spec (w : Int) (w0 : World) :
    Calls Tryz.prog 126 #[(vI w)] w0 fun e w' => e = .returned (.bool (widthB w)) ∧ Ext w0 w' := by
  refine c_enter (n := 9) (args := [(vI w)]) Tryz.func126 rfl rfl (Nat.le_of_ble_eq_true rfl) rfl (fun a hT => ?_)
  simp only [List.zipIdx_cons, List.zipIdx_nil, List.map_cons, List.map_nil, Nat.reduceAdd] at hT
  have hL := Vg.Loc.refl [] w0
  refine c_seq ?_
  refine c_region ?_
  refine l_q hT (q_assign hT rfl) rfl rfl (by decide) ?_; clear hT; intro a hT
  refine l_end ?_
  refine then_norm ?_
  refine c_seq ?_
  refine c_region ?_
  refine l_q hT (q_move hT rfl) rfl rfl (by decide) ?_; clear hT; intro a hT
  refine l_q hT (q_geq hT rfl rfl) rfl rfl (by decide) ?_; clear hT; intro a hT
  refine l_q hT (q_move hT rfl) rfl rfl (by decide) ?_; clear hT; intro a hT
  rcases Bool.eq_false_or_eq_true (decide (0 ≤ w)) with hc1 | hc1
  · rw [hc1] at hT
    have hc1 := of_decide_eq_true hc1
    refine l_on hT rfl rfl rfl rfl (w_q hT (q_move hT rfl) rfl (by decide) ?_); clear hT; intro a hT
    refine l_on hT rfl rfl rfl rfl (w_q hT (q_leq hT rfl rfl) rfl (by decide) ?_); clear hT; intro a hT
    refine l_q hT ((q_pick hT rfl rfl rfl).v (v := (Value.bool (decide (w ≤ 32)))) rfl) rfl rfl (by decide) ?_; clear hT; intro a hT
    refine l_q hT (q_assign hT rfl) rfl rfl (by decide) ?_; clear hT; intro a hT
    refine l_end ?_
    refine then_norm ?_
    refine wp_ret ?_
    refine c_ret (vs := [(Value.bool (decide (w ≤ 32)))]) (rs := [.tmp 2]) hT rfl (.tmp rfl .nil) ?_
    exact ⟨by simp [packed, widthB]; try omega, hL.drop⟩
  · rw [hc1] at hT
    have hc1 := of_decide_eq_false hc1
    refine l_off hT rfl rfl rfl rfl rfl (by decide) ?_; clear hT; intro a hT
    refine l_off hT rfl rfl rfl rfl rfl (by decide) ?_; clear hT; intro a hT
    refine l_q hT ((q_pick hT rfl rfl rfl).v (v := (Value.bool false)) rfl) rfl rfl (by decide) ?_; clear hT; intro a hT
    refine l_q hT (q_assign hT rfl) rfl rfl (by decide) ?_; clear hT; intro a hT
    refine l_end ?_
    refine then_norm ?_
    refine wp_ret ?_
    refine c_ret (vs := [(Value.bool false)]) (rs := [.tmp 2]) hT rfl (.tmp rfl .nil) ?_
    exact ⟨by simp [packed, widthB]; try omega, hL.drop⟩

set_option maxRecDepth 20000 in
set_option maxHeartbeats 1000000 in
theorem short_in (wn : Nat) (d : Dig) (hw : wn ≤ 32) (w0 : World) :
    Calls Tryz.prog 134 #[(vI (wn : Int)), (Value.agg (digC d).toArray)] w0 fun e w' => e = .returned (dv (shortD (wn : Int) d)) ∧ Ext w0 w' := by
  refine c_enter (n := 13) (args := [(vI (wn : Int)), (Value.agg (digC d).toArray)]) Tryz.func134 rfl rfl (Nat.le_of_ble_eq_true rfl) rfl (fun a hT => ?_)
  simp only [List.zipIdx_cons, List.zipIdx_nil, List.map_cons, List.map_nil, Nat.reduceAdd] at hT
  have hL := Vg.Loc.refl [] w0
  refine c_seq ?_
  refine c_region ?_
  refine l_do rfl ?_
  refine w_box hT hL (by decide) rfl (c := digC d) rfl ?_; clear hT hL; intro b1 a w1 hT hL hE hB
  refine l_do rfl ?_
  refine w_alloc hT hL (by decide) Tryz.ty24 ?_; clear hT hL; intro b2 a w2 hT hL hE hB
  refine l_end ?_
  refine then_norm ?_
  refine c_seq ?_
  refine c_region ?_
  refine l_do rfl ?_
  refine w_alloc hT hL (by decide) Tryz.ty24 ?_; clear hT hL; intro b3 a w3 hT hL hE hB
  refine l_end ?_
  refine then_norm ?_
  refine c_seq ?_
  refine c_seq ?_
  refine c_region ?_
  refine l_q hT (q_move hT rfl) rfl rfl (by decide) ?_; clear hT; intro a hT
  refine l_do rfl ?_
  refine w_callT (xs := [.tmp 6]) hT rfl (vs := [(vI (wn : Int))]) rfl (args := #[(vI (wn : Int))]) rfl Tryz.func126 rfl rfl (by decide) ((width_spec ((wn : Int)) _).mono ?_)
  rintro e w4 ⟨rfl, hX⟩
  refine ⟨_, rfl, ?_⟩; clear hT; intro a hT; replace hT : Tm 13 a ((7, (Value.bool (widthB (wn : Int)))) :: _) := hT
  replace hL := hL.ext hX
  refine l_end ?_
  refine then_norm ?_
  refine c_true hT rfl (by simp [widthB]; omega) ?_
  refine d_start' hL #[false, false, false, false] [3] rfl rfl rfl ?_; clear hL; intro w5 hL hE; have hR := hL; have hS := Ext.refl w5
  refine d_pure (i := 0) hT #[true, false, false, false] rfl (by kernel_rfl) rfl rfl (by decide) (fun _ _ _ h => h) (fun _ => q_move hT rfl) ?_; clear hT; intro a hT
  refine d_pure (i := 1) hT #[true, true, false, false] rfl (by kernel_rfl) rfl rfl (by decide) (fun _ _ _ h => h) (fun _ => q_slice_arr_hi (h := wn) hT rfl rfl Tryz.arr24 (by omega) (by omega)) ?_; clear hT; intro a hT
  refine d_pure (i := 2) hT #[true, true, true, false] rfl (by kernel_rfl) rfl rfl (by decide) (fun _ _ _ h => h) (fun _ => q_slice_arr hT rfl Tryz.arr24 (by omega)) ?_; clear hT; intro a hT
  refine d_one (i := 3) hT #[true, true, true, true] rfl (by kernel_rfl) rfl ?_
  obtain ⟨k1, hk1⟩ : ∃ k1, k1 = min 32 wn := ⟨_, rfl⟩
  have hlk : (d.l.take k1).length = k1 := by rw [List.length_take, ((SlB.dig (hL.rd 2 rfl 0 (ds := digC d) rfl))).1]; omega
  refine w_copy (off := _) hT hL (by decide) 0 k1 (c := digC Dig.zero) rfl rfl rfl Tryz.sli154 ((SlB.dig (hL.rd 2 rfl 0 (ds := digC d) rfl))) rfl hk1 (by simp [arr32_len, arr8_len, digC_len] <;> omega) (c' := arr8 32 (over Dig.zero.get 0 (d.l.take k1))) (lay_at (pre := []) (mid := arr8 32 Dig.zero.get) (post := []) (i := 0) (by simp [digC_arr]) (by simp [arr32_len, arr8_len, digC_len]) (by simp [arr32_len, arr8_len, digC_len, byC] <;> omega) (lay_arr8 _ _ (by rw [hlk]; omega)) (by simp)) ?_; clear hT hL; intro a w6 hT hL hE
  replace hL : Vg.Loc [] w0 w6 ([[(b3, ob (arr8 32 (over Dig.zero.get 0 (d.l.take k1))) 24)], [(b2, ob (digC Dig.zero) 24)], [(b1, ob (digC d) 24)]]) := hL
  refine ⟨fun hn => absurd (by decide) hn, ?_⟩
  refine d_done (by kernel_rfl) ?_; clear hR hS
  refine then_norm ?_
  refine c_seq ?_
  refine c_region ?_
  refine l_q hT (q_load_agg hT rfl Tryz.ty24 (hL.rd 0 rfl 0 (ds := arr8 32 (over Dig.zero.get 0 (d.l.take k1))) rfl) rfl) rfl rfl (by decide) ?_; clear hT; intro a hT
  refine l_do rfl ?_
  refine w_store hT hL 1 (c := digC Dig.zero) rfl rfl Tryz.ty24 rfl (vs := arr8 32 (over Dig.zero.get 0 (d.l.take k1))) rfl rfl (by first | decide | (simp [arr32_len, arr8_len, digC_len]; done) | (simp [arr32_len, arr8_len, digC_len]; omega)) rfl (c' := arr8 32 (over Dig.zero.get 0 (d.l.take k1))) rfl ?_; clear hL; intro w7 hL hE
  replace hL : Vg.Loc [] w0 w7 ([[(b3, ob (arr8 32 (over Dig.zero.get 0 (d.l.take k1))) 24)], [(b2, ob (arr8 32 (over Dig.zero.get 0 (d.l.take k1))) 24)], [(b1, ob (digC d) 24)]]) := hL
  refine l_end ?_
  refine then_norm ?_
  refine wp_ret ?_
  refine c_ret (vs := [(Value.agg (arr8 32 (over Dig.zero.get 0 (d.l.take k1))).toArray)]) (rs := [.cell 4 24]) hT rfl (.agg rfl Tryz.ty24 (hL.rd 1 rfl 0 (ds := arr8 32 (over Dig.zero.get 0 (d.l.take k1))) rfl) rfl .nil) ?_
  refine ⟨?_, hL.drop⟩; simp only [packed]; rw [short_cells hk1 hw]

set_option maxRecDepth 20000 in
set_option maxHeartbeats 1000000 in
theorem short_out (w : Int) (d : Dig) (hw : ¬ (0 ≤ w ∧ w ≤ 32)) (w0 : World) :
    Calls Tryz.prog 134 #[(vI w), (Value.agg (digC d).toArray)] w0 fun e w' => e = .returned (dv (shortD w d)) ∧ Ext w0 w' := by
  refine c_enter (n := 13) (args := [(vI w), (Value.agg (digC d).toArray)]) Tryz.func134 rfl rfl (Nat.le_of_ble_eq_true rfl) rfl (fun a hT => ?_)
  simp only [List.zipIdx_cons, List.zipIdx_nil, List.map_cons, List.map_nil, Nat.reduceAdd] at hT
  have hL := Vg.Loc.refl [] w0
  refine c_seq ?_
  refine c_region ?_
  refine l_do rfl ?_
  refine w_box hT hL (by decide) rfl (c := digC d) rfl ?_; clear hT hL; intro b1 a w1 hT hL hE hB
  refine l_do rfl ?_
  refine w_alloc hT hL (by decide) Tryz.ty24 ?_; clear hT hL; intro b2 a w2 hT hL hE hB
  refine l_end ?_
  refine then_norm ?_
  refine c_seq ?_
  refine c_region ?_
  refine l_do rfl ?_
  refine w_alloc hT hL (by decide) Tryz.ty24 ?_; clear hT hL; intro b3 a w3 hT hL hE hB
  refine l_end ?_
  refine then_norm ?_
  refine c_seq ?_
  refine c_seq ?_
  refine c_region ?_
  refine l_q hT (q_move hT rfl) rfl rfl (by decide) ?_; clear hT; intro a hT
  refine l_do rfl ?_
  refine w_callT (xs := [.tmp 6]) hT rfl (vs := [(vI w)]) rfl (args := #[(vI w)]) rfl Tryz.func126 rfl rfl (by decide) ((width_spec (w) _).mono ?_)
  rintro e w4 ⟨rfl, hX⟩
  refine ⟨_, rfl, ?_⟩; clear hT; intro a hT; replace hT : Tm 13 a ((7, (Value.bool (widthB w))) :: _) := hT
  replace hL := hL.ext hX
  refine l_end ?_
  refine then_norm ?_
  refine c_false hT rfl (by simp [widthB]; omega) ?_
  refine wp_skip ?_
  refine then_norm ?_
  refine c_seq ?_
  refine c_region ?_
  refine l_q hT (q_load_agg hT rfl Tryz.ty24 (hL.rd 0 rfl 0 (ds := digC Dig.zero) rfl) rfl) rfl rfl (by decide) ?_; clear hT; intro a hT
  refine l_do rfl ?_
  refine w_store hT hL 1 (c := digC Dig.zero) rfl rfl Tryz.ty24 rfl (vs := digC Dig.zero) rfl rfl (by first | decide | (simp [arr32_len, arr8_len, digC_len]; done) | (simp [arr32_len, arr8_len, digC_len]; omega)) rfl (c' := digC Dig.zero) rfl ?_; clear hL; intro w5 hL hE
  replace hL : Vg.Loc [] w0 w5 ([[(b3, ob (digC Dig.zero) 24)], [(b2, ob (digC Dig.zero) 24)], [(b1, ob (digC d) 24)]]) := hL
  refine l_end ?_
  refine then_norm ?_
  refine wp_ret ?_
  refine c_ret (vs := [(Value.agg (digC Dig.zero).toArray)]) (rs := [.cell 4 24]) hT rfl (.agg rfl Tryz.ty24 (hL.rd 1 rfl 0 (ds := digC Dig.zero) rfl) rfl .nil) ?_
  refine ⟨?_, hL.drop⟩; simp only [packed]; rw [short_zero hw]

theorem short_spec (w : Int) (d : Dig) (w0 : World) : Calls Tryz.prog 134 #[vI w, dv d] w0 fun e w' => e = .returned (dv (shortD w d)) ∧ Ext w0 w' := by
  by_cases h : 0 ≤ w ∧ w ≤ 32
  · obtain ⟨wn, rfl⟩ := Int.eq_ofNat_of_zero_le h.1
    exact short_in wn d (by omega) w0
  · exact short_out w d h w0
end Go.Proofs.YtcaffacganffjaaGreatDoor
end
