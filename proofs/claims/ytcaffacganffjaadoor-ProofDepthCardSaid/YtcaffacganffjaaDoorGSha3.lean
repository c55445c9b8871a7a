/- The walks of a part of the program: GSha3. Printed by a program of the prover. -/
import Derived.Test.YtcaffacganffjaaDoorVDig
import Derived.Test.YtcaffacganffjaaDoorVTypes
import Derived.Test.YtcaffacganffjaaDoorVSha
import Derived.Test.YtcaffacganffjaaDoorVSlice
import Derived.Test.YtcaffacganffjaaDoorGSha2
namespace Go.Proofs.YtcaffacganffjaaDoor
open Go Go.Vg


set_option maxRecDepth 100000 in
set_option maxHeartbeats 4000000 in
theorem Write_spec (b : Nat) (h : Nat → UInt32) (buf : Nat → UInt8) (m bs : List UInt8) (p : Option Addr) (len cap : Nat) (w0 : World) (hK : KeysAt w0) (hb0 : 0 ∉ [b]) (hh : w0.heap[b]? = some (ob (arr32 8 h ++ (arr8 64 buf ++ ([(vI (m.length : Int))]))) 110)) (hok : HOk h buf m) (hsl : SlB w0 p len bs) (hds : 0 < len → ∀ ad : Addr, p = some ad → ad.block ∉ [b]) (hcl : len ≤ cap) (hbig : m.length + len < 4611686018427387904) :
    Calls Tryd.prog 39 #[(vp b 0), (Value.slice p len cap)] w0 fun e w' => ∃ h' buf', e = .returned (vI 0) ∧ Vg.Loc [b] w0 w' [[(b, ob (arr32 8 h' ++ (arr8 64 buf' ++ [vI ((m ++ bs).length : Int)])) 110)]] ∧ HOk h' buf' (m ++ bs) := by
  refine c_enter (n := 41) (args := [(vp b 0), (Value.slice p len cap)]) Tryd.func39 rfl rfl (Nat.le_of_ble_eq_true rfl) rfl (fun a hT => ?_)
  simp only [List.zipIdx_cons, List.zipIdx_nil, List.map_cons, List.map_nil, Nat.reduceAdd] at hT
  have hL := Vg.Loc.start1 hh
  have hlen : bs.length = len := hsl.1
  refine c_seq ?_
  refine c_region ?_
  refine l_q hT (q_assign hT rfl) rfl rfl (by decide) ?_; clear hT; intro a hT
  refine l_end ?_
  refine then_norm ?_
  refine c_seq ?_
  refine c_seq ?_
  refine c_region ?_
  refine l_q hT (q_move hT rfl) rfl rfl (by decide) ?_; clear hT; intro a hT
  refine l_q hT ((q_eq_nil hT rfl rfl Tryd.underlying76).b (b := false) rfl) rfl rfl (by decide) ?_; clear hT; intro a hT
  refine l_end ?_
  refine then_norm ?_
  refine c_false hT rfl rfl ?_
  refine wp_skip ?_
  refine then_norm ?_
  refine c_seq ?_
  refine wp_block ?_
  refine c_loop (fun mm a wz => ∃ (done : Nat) (h : Nat → UInt32) (buf : Nat → UInt8) (p' : Option Addr) (cap' : Nat), mm = bs.length - done ∧ done ≤ bs.length ∧ bs.length - done ≤ cap' ∧ HOk h buf (m ++ bs.take done) ∧ SlB w0 p' (bs.length - done) (bs.drop done) ∧ (0 < bs.length - done → ∀ ad : Addr, p' = some ad → ad.block ∉ [b]) ∧ Tm 41 a [(0, vp b 0), (1, .slice p' (bs.length - done) cap')] ∧ Vg.Loc [b] w0 wz [[(b, ob (arr32 8 h ++ (arr8 64 buf ++ ([(vI ((m.length + done : Nat) : Int))]))) 110)]]) id bs.length ?_ ?_
  · exact ⟨0, h, buf, p, cap, rfl, by omega, by omega, by simpa using hok, by simpa [hlen] using hsl, by simpa [hlen] using hds, by simpa [hlen] using hT.keep [0, 1] (E' := [(0, vp b 0), (1, .slice p len cap)]) rfl, by simpa using hL⟩
  clear hT hL
  rintro mz a w1 ⟨done, h, buf, p', cap', rfl, hdone, hcap, hok, hsl, hds, hT, hL⟩
  refine c_seq ?_
  refine c_seq ?_
  refine c_region ?_
  refine l_q hT (q_move hT rfl) rfl rfl (by decide) ?_; clear hT; intro a hT
  refine l_q hT (q_len_slice hT rfl Tryd.underlying73) rfl rfl (by decide) ?_; clear hT; intro a hT
  refine l_q hT (q_gtr hT rfl rfl) rfl rfl (by decide) ?_; clear hT; intro a hT
  refine l_end ?_
  refine then_norm ?_
  refine c_if hT rfl (fun hc1 => ?_) (fun hc1 => ?_)
  · skip
    have hc1 := of_decide_eq_true hc1
    refine wp_skip ?_
    refine then_norm ?_
    refine wp_block ?_
    refine c_seq ?_
    refine d_start' hL #[false, false, false, false, false, false, false, false, false, false, false, false] [10] rfl rfl rfl ?_; clear hL; intro w2 hL hE; have hR := hL; have hS := Ext.refl w2
    refine d_pure (i := 0) hT #[true, false, false, false, false, false, false, false, false, false, false, false] rfl (by kernel_rfl) rfl rfl (by decide) (fun _ _ _ h => h) (fun _ => q_move hT rfl) ?_; clear hT; intro a hT
    refine d_pure (i := 1) hT #[true, true, false, false, false, false, false, false, false, false, false, false] rfl (by kernel_rfl) rfl rfl (by decide) (fun _ _ _ h => h) (fun _ => q_nilCheck hT rfl) ?_; clear hT; intro a hT
    refine d_pure (i := 2) hT #[true, true, true, false, false, false, false, false, false, false, false, false] rfl (by kernel_rfl) rfl rfl (by decide) (fun _ _ _ h => h) (fun _ => q_fieldAddr hT rfl Tryd.fld110_1 rfl) ?_; clear hT; intro a hT
    refine d_pure (i := 3) hT #[true, true, true, true, false, false, false, false, false, false, false, false] rfl (by kernel_rfl) rfl rfl (by decide) (fun _ _ _ h => h) (fun _ => q_move hT rfl) ?_; clear hT; intro a hT
    refine d_pure (i := 4) hT #[true, true, true, true, true, false, false, false, false, false, false, false] rfl (by kernel_rfl) rfl rfl (by decide) (fun _ _ _ h => h) (fun _ => q_nilCheck hT rfl) ?_; clear hT; intro a hT
    refine d_pure (i := 5) hT #[true, true, true, true, true, true, false, false, false, false, false, false] rfl (by kernel_rfl) rfl rfl (by decide) (fun _ _ _ h => h) (fun _ => q_fieldAddr hT rfl Tryd.fld110_2 rfl) ?_; clear hT; intro a hT
    refine d_pure (i := 9) hT #[true, true, true, true, true, true, false, false, false, true, false, false] rfl (by kernel_rfl) rfl rfl (by decide) (fun _ _ _ h => h) (fun _ => q_move hT rfl) ?_; clear hT; intro a hT
    refine d_take (i := 6) hT #[true, true, true, true, true, true, true, false, false, true, false, false] rfl (by kernel_rfl) rfl rfl (by decide) (fun _ _ _ h => h) (fun _ hs => q_load hT rfl Tryd.ty3 (Rd.ext (hR.rd 0 rfl 72 (ds := [(vI ((m.length + done : Nat) : Int))]) rfl) hs)) hS ?_; clear hT; intro a hT
    refine d_pure (i := 7) hT #[true, true, true, true, true, true, true, true, false, true, false, false] rfl (by kernel_rfl) rfl rfl (by decide) (fun _ _ _ h => h) (fun _ => (q_remI hT rfl rfl (by omega) (by omega)).v (v := vI (((m.length + done) % 64 : Nat) : Int)) rfl) ?_; clear hT; intro a hT
    refine d_pure (i := 8) hT #[true, true, true, true, true, true, true, true, true, true, false, false] rfl (by kernel_rfl) rfl rfl (by decide) (fun _ _ _ h => h) (fun _ => q_slice_arr_lo (l := ((m.length + done) % 64 : Nat)) hT rfl rfl Tryd.arr108 (by omega)) ?_; clear hT; intro a hT
    refine d_one (i := 10) hT #[true, true, true, true, true, true, true, true, true, true, true, false] rfl (by kernel_rfl) rfl ?_
    obtain ⟨k1, hk1⟩ : ∃ k1, k1 = min (bs.length - done) (64 - ((m.length + done) % 64 : Nat)) := ⟨_, rfl⟩
    have hlk : ((bs.drop done).take k1).length = k1 := by rw [List.length_take, ((hsl.loc hL hds)).1]; omega
    refine w_copy (off := _) hT hL (by decide) 0 k1 (c := arr32 8 h ++ (arr8 64 buf ++ ([(vI ((m.length + done : Nat) : Int))]))) rfl rfl rfl Tryd.sli73 ((hsl.loc hL hds)) rfl hk1 (by simp [arr32_len, arr8_len, digC_len] <;> omega) (c' := arr32 8 h ++ (arr8 64 (over buf ((m.length + done) % 64 : Nat) ((bs.drop done).take k1)) ++ ([(vI ((m.length + done : Nat) : Int))]))) (lay_at (pre := arr32 8 h) (mid := arr8 64 buf) (post := [(vI ((m.length + done : Nat) : Int))]) (i := ((m.length + done) % 64 : Nat)) (by simp [digC_arr]) (by simp [arr32_len, arr8_len, digC_len]) (by simp [arr32_len, arr8_len, digC_len, byC] <;> omega) (lay_arr8 _ _ (by rw [hlk]; omega)) (by simp)) ?_; clear hT hL; intro a w3 hT hL hE
    replace hL : Vg.Loc [b] w0 w3 ([[(b, ob (arr32 8 h ++ (arr8 64 (over buf ((m.length + done) % 64 : Nat) ((bs.drop done).take k1)) ++ ([(vI ((m.length + done : Nat) : Int))]))) 110)]]) := hL
    refine ⟨fun hn => absurd (by decide) hn, ?_⟩
    refine d_pure (i := 11) hT #[true, true, true, true, true, true, true, true, true, true, true, true] rfl (by kernel_rfl) rfl rfl (by decide) (fun _ _ _ h => h) (fun _ => q_assign hT rfl) ?_; clear hT; intro a hT
    refine d_done (by kernel_rfl) ?_; clear hR hS
    refine then_norm ?_
    refine c_seq ?_
    refine c_region ?_
    refine l_q hT (q_move hT rfl) rfl rfl (by decide) ?_; clear hT; intro a hT
    refine l_q hT (q_nilCheck hT rfl) rfl rfl (by decide) ?_; clear hT; intro a hT
    refine l_q hT (q_fieldAddr hT rfl Tryd.fld110_2 rfl) rfl rfl (by decide) ?_; clear hT; intro a hT
    refine l_q hT (q_load hT rfl Tryd.ty3 (hL.rd 0 rfl 72 (ds := [(vI ((m.length + done : Nat) : Int))]) rfl)) rfl rfl (by decide) ?_; clear hT; intro a hT
    refine l_q hT (q_move hT rfl) rfl rfl (by decide) ?_; clear hT; intro a hT
    refine l_q hT ((q_addI hT rfl rfl (r := ((m.length + done : Nat) : Int) + (k1 : Int)) rfl (by omega) (by omega)).v (v := vI ((m.length + done + k1 : Nat) : Int)) (by congr 1)) rfl rfl (by decide) ?_; clear hT; intro a hT
    refine l_q hT (q_nilCheck hT rfl) rfl rfl (by decide) ?_; clear hT; intro a hT
    refine l_q hT (q_fieldAddr hT rfl Tryd.fld110_2 rfl) rfl rfl (by decide) ?_; clear hT; intro a hT
    refine l_do rfl ?_
    refine w_store hT hL 0 (c := arr32 8 h ++ (arr8 64 (over buf ((m.length + done) % 64 : Nat) ((bs.drop done).take k1)) ++ ([(vI ((m.length + done : Nat) : Int))]))) rfl rfl Tryd.ty3 rfl (vs := [(vI ((m.length + done + k1 : Nat) : Int))]) rfl rfl (by first | decide | (simp [arr32_len, arr8_len, digC_len]; done) | (simp [arr32_len, arr8_len, digC_len]; omega)) rfl (c' := arr32 8 h ++ (arr8 64 (over buf ((m.length + done) % 64 : Nat) ((bs.drop done).take k1)) ++ ([(vI ((m.length + done + k1 : Nat) : Int))]))) rfl ?_; clear hL; intro w4 hL hE
    replace hL : Vg.Loc [b] w0 w4 ([[(b, ob (arr32 8 h ++ (arr8 64 (over buf ((m.length + done) % 64 : Nat) ((bs.drop done).take k1)) ++ ([(vI ((m.length + done + k1 : Nat) : Int))]))) 110)]]) := hL
    refine l_end ?_
    refine then_norm ?_
    refine c_seq ?_
    refine c_region ?_
    refine l_q hT (q_move hT rfl) rfl rfl (by decide) ?_; clear hT; intro a hT
    refine l_q hT (q_move hT rfl) rfl rfl (by decide) ?_; clear hT; intro a hT
    refine l_q hT (q_slice_lo (l := k1) hT rfl rfl Tryd.sli73 (by omega)) rfl rfl (by decide) ?_; clear hT; intro a hT
    refine l_q hT (q_assign hT rfl) rfl rfl (by decide) ?_; clear hT; intro a hT
    refine l_end ?_
    refine then_norm ?_
    refine c_seq ?_
    refine c_region ?_
    refine l_q hT (q_move hT rfl) rfl rfl (by decide) ?_; clear hT; intro a hT
    refine l_q hT (q_nilCheck hT rfl) rfl rfl (by decide) ?_; clear hT; intro a hT
    refine l_q hT (q_fieldAddr hT rfl Tryd.fld110_2 rfl) rfl rfl (by decide) ?_; clear hT; intro a hT
    refine l_q hT (q_load hT rfl Tryd.ty3 (hL.rd 0 rfl 72 (ds := [(vI ((m.length + done + k1 : Nat) : Int))]) rfl)) rfl rfl (by decide) ?_; clear hT; intro a hT
    refine l_q hT ((q_remI hT rfl rfl (by omega) (by omega)).v (v := vI (((m.length + done + k1) % 64 : Nat) : Int)) rfl) rfl rfl (by decide) ?_; clear hT; intro a hT
    refine l_q hT (q_eql hT rfl rfl) rfl rfl (by decide) ?_; clear hT; intro a hT
    refine l_end ?_
    refine then_norm ?_
    refine c_if hT rfl (fun hc2 => ?_) (fun hc2 => ?_)
    · skip
      have hc2 := of_decide_eq_true hc2
      have htk : m ++ bs.take (done + k1) = (m ++ bs.take done) ++ (bs.drop done).take k1 := by rw [List.append_assoc, List.take_add]
      have hml : (m ++ bs.take done).length = m.length + done := by simp; omega
      have hrl : ((bs.drop done).take k1).length = k1 := hlk
      have hok := hok.full (l := (bs.drop done).take k1) (by omega) (by omega) (by omega)
      rw [hml] at hok
      have hds' : 0 < bs.length - done - k1 → ∀ ad : Addr, (if cap' = k1 then p' else p'.map (·.add (k1 * 1))) = some ad → ad.block ∉ [b] := SlB.lo_ne hds
      refine c_region ?_
      refine l_q hT (q_move hT rfl) rfl rfl (by decide) ?_; clear hT; intro a hT
      refine l_do rfl ?_
      refine w_callT (xs := [.tmp 39]) hT rfl (vs := [(vp b 0)]) rfl (args := #[(vp b 0)]) rfl Tryd.func54 rfl rfl (by decide) ((mix_spec b h (over buf ((m.length + done) % 64 : Nat) ((bs.drop done).take k1)) ((m.length + done + k1 : Nat) : Int) _ (hK.of hL hb0) hb0 (hL.get 0 rfl)).mono ?_)
      rintro e w5 ⟨rfl, hX⟩
      refine ⟨_, rfl, ?_⟩; clear hT; intro a hT; replace hT : Tm 41 a ((40, (Value.tuple #[])) :: _) := hT
      replace hL : Vg.Loc [b] w0 w5 ([[(b, ob (arr32 8 (mixF h (over buf ((m.length + done) % 64 : Nat) ((bs.drop done).take k1))) ++ (arr8 64 (over buf ((m.length + done) % 64 : Nat) ((bs.drop done).take k1)) ++ ([(vI ((m.length + done + k1 : Nat) : Int))]))) 110)]]) := Vg.Loc.call (ci := [[(b, ob (arr32 8 h ++ (arr8 64 (over buf ((m.length + done) % 64 : Nat) ((bs.drop done).take k1)) ++ ([(vI ((m.length + done + k1 : Nat) : Int))]))) 110)]]) (cr := []) hL hX
      refine l_end ?_
      refine blk_norm ?_
      refine then_norm ?_
      exact ⟨_, ⟨done + k1, _, _, _, (cap' - k1), rfl, by omega, by omega, by rw [htk]; exact hok, by simpa [Nat.sub_sub, List.drop_drop] using hsl.lo (l := k1) (by omega) hcap, by simpa [Nat.sub_sub] using hds', by simpa [Nat.sub_sub] using hT.keep [0, 1] (E' := [(0, vp b 0), (1, .slice (if cap' = k1 then p' else p'.map (·.add (k1 * 1))) (bs.length - done - k1) (cap' - k1))]) rfl, by simpa [Nat.add_assoc] using hL⟩, by simp only [id]; omega⟩
    · skip
      have hc2 := of_decide_eq_false hc2
      have htk : m ++ bs.take (done + k1) = (m ++ bs.take done) ++ (bs.drop done).take k1 := by rw [List.append_assoc, List.take_add]
      have hml : (m ++ bs.take done).length = m.length + done := by simp; omega
      have hrl : ((bs.drop done).take k1).length = k1 := hlk
      have hok := hok.more (l := (bs.drop done).take k1) (by omega) (by omega)
      rw [hml] at hok
      have hds' : 0 < bs.length - done - k1 → ∀ ad : Addr, (if cap' = k1 then p' else p'.map (·.add (k1 * 1))) = some ad → ad.block ∉ [b] := SlB.lo_ne hds
      refine wp_skip ?_
      refine blk_norm ?_
      refine then_norm ?_
      exact ⟨_, ⟨done + k1, _, _, _, (cap' - k1), rfl, by omega, by omega, by rw [htk]; exact hok, by simpa [Nat.sub_sub, List.drop_drop] using hsl.lo (l := k1) (by omega) hcap, by simpa [Nat.sub_sub] using hds', by simpa [Nat.sub_sub] using hT.keep [0, 1] (E' := [(0, vp b 0), (1, .slice (if cap' = k1 then p' else p'.map (·.add (k1 * 1))) (bs.length - done - k1) (cap' - k1))]) rfl, by simpa [Nat.add_assoc] using hL⟩, by simp only [id]; omega⟩
  · skip
    have hc1 := of_decide_eq_false hc1
    obtain rfl : done = bs.length := by omega
    refine wp_exit ?_
    refine then_exit ?_
    refine then_exit ?_
    refine blk_exit ?_
    refine then_norm ?_
    refine c_seq ?_
    refine c_region ?_
    refine l_q hT (q_assign hT rfl) rfl rfl (by decide) ?_; clear hT; intro a hT
    refine l_end ?_
    refine then_norm ?_
    refine wp_ret ?_
    refine c_ret (vs := [(vI 0)]) (rs := [.tmp 4]) hT rfl (.tmp rfl .nil) ?_
    exact ⟨_, _, rfl, by simpa using hL, by simpa using hok⟩
end Go.Proofs.YtcaffacganffjaaDoor
