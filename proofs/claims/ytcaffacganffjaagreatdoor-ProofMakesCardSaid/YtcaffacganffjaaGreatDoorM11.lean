/- The walks of a part of the program: GRef5. Printed by a program of the prover. The walks of a part of the program: GRef6. Printed by a program of the prover. The walks of a part of the program: GRef7. Printed by a program of the prover. -/
import Derived.Test.YtcaffacganffjaaGreatDoorM2
import Derived.Test.YtcaffacganffjaaGreatDoorM6
import Derived.Test.YtcaffacganffjaaGreatDoorM10

section
namespace Go.Proofs.YtcaffacganffjaaGreatDoor
open Go Go.Vg


set_option maxRecDepth 100000 in
set_option maxHeartbeats 4000000 in
theorem Padded_spec (bs : List UInt8) (p : Option Addr) (len cap : Nat) (hbig : len < 100000000000000) (w0 : World) (hsl : SlB w0 p len bs) :
    Calls Tryz.prog 153 #[(Value.slice p len cap)] w0 fun e w' => ∃ p' n' cap' c, e = .returned (.slice p' n' cap') ∧ Vg.Loc [] w0 w' [c] ∧ OwnB 5 p' n' cap' (padded bs) c := by
  refine c_enter (n := 36) (args := [(Value.slice p len cap)]) Tryz.func153 rfl rfl (Nat.le_of_ble_eq_true rfl) rfl (fun a hT => ?_)
  simp only [List.zipIdx_cons, List.zipIdx_nil, List.map_cons, List.map_nil, Nat.reduceAdd] at hT
  have hL := Vg.Loc.refl [] w0
  have hlen : bs.length = len := hsl.1
  have hpl := padLen_lt len
  refine c_seq ?_
  refine c_region ?_
  refine l_q hT (q_assign hT rfl) rfl rfl (by decide) ?_; clear hT; intro a hT
  refine l_end ?_
  refine then_norm ?_
  refine c_seq ?_
  refine c_region ?_
  refine l_q hT (q_assign hT rfl) rfl rfl (by decide) ?_; clear hT; intro a hT
  refine l_end ?_
  refine then_norm ?_
  refine c_seq ?_
  refine c_region ?_
  refine l_q hT (q_move hT rfl) rfl rfl (by decide) ?_; clear hT; intro a hT
  refine l_q hT (q_move hT rfl) rfl rfl (by decide) ?_; clear hT; intro a hT
  refine l_do rfl ?_
  replace hL : Vg.Loc [] w0 w0 ([[]]) := hL.regroup (by simp)
  have hnil1 : OwnB 5 none 0 0 [] [] := OwnE.nil
  have hsr1 := ((hsl.ext hL)).src
  refine w_append hT hL (by decide) 0 rfl rfl rfl Tryz.app154 (by decide) rfl hnil1.2 hsr1 (by omega) (by simp only [maxLen]; omega) ?_; clear hT hL; intro p1 cap1 ck1 a w1 how1 hT hL
  replace hL : Vg.Loc [] w0 w1 ([ck1]) := hL
  have hoe1 := OwnE.more hnil1 (l' := bs) (hlen) how1
  refine l_q hT (q_assign hT rfl) rfl rfl (by decide) ?_; clear hT; intro a hT
  refine l_end ?_
  refine then_norm ?_
  refine c_seq ?_
  refine c_region ?_
  refine l_q hT (q_move hT rfl) rfl rfl (by decide) ?_; clear hT; intro a hT
  refine l_do rfl ?_
  refine w_buildSlice (e := 5) (ps := [(0, .const (.int .u8 128))]) (pv := [(0, (v8 128))]) (c := [(v8 128)]) hT hL (by decide) rfl (fun _ => by kernel_rfl) ?_; clear hT hL; intro b1 a w2 hT hL hE hB
  refine l_do rfl ?_
  have hsr2 := (SlB.of (hL.rd 0 rfl 0 (ds := byC [128]) rfl)).src
  refine w_append hT hL (by decide) 1 rfl rfl rfl Tryz.app154 (by decide) rfl hoe1.2 hsr2 (by omega) (by simp only [maxLen]; omega) ?_; clear hT hL; intro p2 cap2 ck2 a w3 how2 hT hL
  replace hL : Vg.Loc [] w0 w3 ([[(b1, ob [(v8 128)] 5)], ck2]) := hL
  have hoe2 := OwnE.more hoe1 (l' := [128]) (rfl) how2
  refine l_q hT (q_assign hT rfl) rfl rfl (by decide) ?_; clear hT; intro a hT
  refine l_end ?_
  refine then_norm ?_
  refine c_seq ?_
  refine wp_block ?_
  replace hL : Vg.Loc [] w0 w3 ([ck2, [(b1, ob [(v8 128)] 5)]]) := hL.front 1 rfl rfl
  replace hL : Vg.Loc [] w0 w3 ([ck2]) := hL.sub (.cons_cons _ (.cons _ .slnil))
  refine c_loop (fun mz a wz => ∃ (t : Nat) (p0 : Option Addr) (n0 cp0 : Nat) (c0 : Chunk), mz = padLen len - t ∧ t ≤ padLen len ∧ n0 = len + 1 + t ∧ OwnB 5 p0 n0 cp0 (bs ++ [128] ++ List.replicate t 0) c0 ∧ Tm 36 a [(0, (Value.slice p len cap)), (3, (Value.slice p0 n0 cp0))] ∧ Vg.Loc [] w0 wz [c0]) id (padLen len - 0) ?_ ?_
  · exact ⟨0, _, _, _, _, rfl, by omega, by omega, by simpa using hoe2, hT.keep [0, 3] rfl, hL⟩
  clear hT hL
  rintro mz a w4 ⟨t, p0, n0, cp0, c0, rfl, ht, hn0, hz, hT, hL⟩
  refine c_seq ?_
  refine c_seq ?_
  refine c_region ?_
  refine l_q hT (q_move hT rfl) rfl rfl (by decide) ?_; clear hT; intro a hT
  refine l_q hT (q_len_slice hT rfl Tryz.underlying154) rfl rfl (by decide) ?_; clear hT; intro a hT
  refine l_q hT (q_remI hT rfl rfl (by omega) (by omega)) rfl rfl (by decide) ?_; clear hT; intro a hT
  refine l_q hT (q_neq hT rfl rfl) rfl rfl (by decide) ?_; clear hT; intro a hT
  refine l_end ?_
  refine then_norm ?_
  refine c_if hT rfl (fun hc1 => ?_) (fun hc1 => ?_)
  · skip
    have hc1 := of_decide_eq_true hc1
    have htl : t < padLen len := by
      rcases Nat.lt_or_ge t (padLen len) with q | q
      · exact q
      · exfalso; have := padLen_rem len; omega
    refine wp_skip ?_
    refine then_norm ?_
    refine wp_block ?_
    refine c_region ?_
    refine l_q hT (q_move hT rfl) rfl rfl (by decide) ?_; clear hT; intro a hT
    refine l_do rfl ?_
    refine w_buildSlice (e := 5) (ps := [(0, .const (.int .u8 0))]) (pv := [(0, (v8 0))]) (c := [(v8 0)]) hT hL (by decide) rfl (fun _ => by kernel_rfl) ?_; clear hT hL; intro b2 a w5 hT hL hE hB
    refine l_do rfl ?_
    have hsr3 := (SlB.of (hL.rd 0 rfl 0 (ds := byC [0]) rfl)).src
    refine w_append hT hL (by decide) 1 rfl rfl rfl Tryz.app154 (by decide) rfl hz.2 hsr3 (by omega) (by simp only [maxLen]; omega) ?_; clear hT hL; intro p3 cap3 ck3 a w6 how3 hT hL
    replace hL : Vg.Loc [] w0 w6 ([[(b2, ob [(v8 0)] 5)], ck3]) := hL
    have hoe3 := OwnE.more hz (l' := [0]) (rfl) how3
    refine l_q hT (q_assign hT rfl) rfl rfl (by decide) ?_; clear hT; intro a hT
    refine l_end ?_
    refine blk_norm ?_
    refine then_norm ?_
    replace hL : Vg.Loc [] w0 w6 ([ck3, [(b2, ob [(v8 0)] 5)]]) := hL.front 1 rfl rfl
    replace hL : Vg.Loc [] w0 w6 ([ck3]) := hL.sub (.cons_cons _ (.cons _ .slnil))
    have hp := pad_more bs t
    exact ⟨_, ⟨t + 1, _, _, _, _, rfl, by omega, by omega, hp ▸ hoe3, hT.keep [0, 3] rfl, hL⟩, by simp only [id]; omega⟩
  · skip
    have hc1 := of_decide_eq_false hc1
    have htl : t = padLen len := by
      rcases Nat.lt_or_ge t (padLen len) with q | q
      · exfalso; have := padLen_no q; omega
      · omega
    subst htl
    refine wp_exit ?_
    refine then_exit ?_
    refine then_exit ?_
    refine blk_exit ?_
    refine then_norm ?_
    refine c_seq ?_
    refine c_region ?_
    refine l_q hT (q_move hT rfl) rfl rfl (by decide) ?_; clear hT; intro a hT
    refine l_q hT (q_len_slice hT rfl Tryz.underlying154) rfl rfl (by decide) ?_; clear hT; intro a hT
    refine l_q hT (q_conv_i_64 (u := len) hT rfl Tryz.underlying3 Tryz.underlying223) rfl rfl (by decide) ?_; clear hT; intro a hT
    refine l_q hT (q_mul64 (u := UInt64.ofNat len) (v := 8) hT rfl rfl) rfl rfl (by decide) ?_; clear hT; intro a hT
    refine l_q hT (q_assign hT rfl) rfl rfl (by decide) ?_; clear hT; intro a hT
    refine l_end ?_
    refine then_norm ?_
    refine c_seq ?_
    refine c_seq ?_
    refine c_region ?_
    refine l_q hT (q_assign hT rfl) rfl rfl (by decide) ?_; clear hT; intro a hT
    refine l_end ?_
    refine then_norm ?_
    refine wp_block ?_
    refine c_loop (fun mz a wz => ∃ (t : Nat) (p0 : Option Addr) (n0 cp0 : Nat) (c0 : Chunk), mz = 8 - t ∧ t ≤ 8 ∧ n0 = len + 1 + padLen len + t ∧ OwnB 5 p0 n0 cp0 (bs ++ [128] ++ List.replicate (padLen len) 0 ++ (lenBytes len).take t) c0 ∧ Tm 36 a [(0, (Value.slice p len cap)), (3, (Value.slice p0 n0 cp0)), (4, (v64 ((UInt64.ofNat len) * 8))), (5, (vI (7 - (t : Int))))] ∧ Vg.Loc [] w0 wz [c0]) id (8 - 0) ?_ ?_
    · exact ⟨0, p0, n0, cp0, c0, rfl, by omega, by omega, by simpa using hz, hT.keep [0, 3, 4, 5] rfl, hL⟩
    clear hT hL
    rintro mz a w7 ⟨t, p0, n0, cp0, c0, rfl, ht, hn0, hz, hT, hL⟩
    refine c_seq ?_
    refine c_seq ?_
    refine c_region ?_
    refine l_q hT (q_move hT rfl) rfl rfl (by decide) ?_; clear hT; intro a hT
    refine l_q hT (q_geq hT rfl rfl) rfl rfl (by decide) ?_; clear hT; intro a hT
    refine l_end ?_
    refine then_norm ?_
    refine c_if hT rfl (fun hc2 => ?_) (fun hc2 => ?_)
    · skip
      have hc2 := of_decide_eq_true hc2
      refine wp_skip ?_
      refine then_norm ?_
      refine c_seq ?_
      refine wp_block ?_
      refine c_region ?_
      refine l_q hT (q_move hT rfl) rfl rfl (by decide) ?_; clear hT; intro a hT
      refine l_q hT (q_move hT rfl) rfl rfl (by decide) ?_; clear hT; intro a hT
      refine l_q hT (q_move hT rfl) rfl rfl (by decide) ?_; clear hT; intro a hT
      refine l_q hT ((q_mulI hT rfl rfl (r := 8 * (7 - (t : Int))) rfl (by omega) (by omega)).v (v := (vI ((56 - 8 * t : Nat) : Int))) (by congr 1; omega)) rfl rfl (by decide) ?_; clear hT; intro a hT
      refine l_q hT (q_shr64 (u := (UInt64.ofNat len) * 8) (s := (56 - 8 * t : Nat)) hT rfl rfl (by omega)) rfl rfl (by decide) ?_; clear hT; intro a hT
      refine l_q hT (q_conv_64_8 hT rfl Tryz.underlying223 Tryz.underlying5) rfl rfl (by decide) ?_; clear hT; intro a hT
      refine l_do rfl ?_
      refine w_buildSlice (e := 5) (ps := [(0, .tmp 32)]) (pv := [(0, (v8 ((shr64 ((UInt64.ofNat len) * 8) (56 - 8 * t : Nat)).toUInt8)))]) (c := [(v8 ((shr64 ((UInt64.ofNat len) * 8) (56 - 8 * t : Nat)).toUInt8))]) hT hL (by decide) rfl (fun _ => by kernel_rfl) ?_; clear hT hL; intro b3 a w8 hT hL hE hB
      refine l_do rfl ?_
      have hsr4 := (SlB.of (hL.rd 0 rfl 0 (ds := byC [(shr64 ((UInt64.ofNat len) * 8) (56 - 8 * t : Nat)).toUInt8]) rfl)).src
      refine w_append hT hL (by decide) 1 rfl rfl rfl Tryz.app154 (by decide) rfl hz.2 hsr4 (by omega) (by simp only [maxLen]; omega) ?_; clear hT hL; intro p4 cap4 ck4 a w9 how4 hT hL
      replace hL : Vg.Loc [] w0 w9 ([[(b3, ob [(v8 ((shr64 ((UInt64.ofNat len) * 8) (56 - 8 * t : Nat)).toUInt8))] 5)], ck4]) := hL
      have hoe4 := OwnE.more hz (l' := [(shr64 ((UInt64.ofNat len) * 8) (56 - 8 * t : Nat)).toUInt8]) (rfl) how4
      refine l_q hT (q_assign hT rfl) rfl rfl (by decide) ?_; clear hT; intro a hT
      refine l_end ?_
      refine blk_norm ?_
      refine then_norm ?_
      refine c_region ?_
      refine l_q hT (q_move hT rfl) rfl rfl (by decide) ?_; clear hT; intro a hT
      refine l_q hT ((q_subI hT rfl rfl (r := (7 - (t : Int)) - 1) rfl (by omega) (by omega)).v (v := (vI (7 - ((t + 1 : Nat) : Int)))) (by congr 1; omega)) rfl rfl (by decide) ?_; clear hT; intro a hT
      refine l_q hT (q_assign hT rfl) rfl rfl (by decide) ?_; clear hT; intro a hT
      refine l_end ?_
      refine then_norm ?_
      replace hL : Vg.Loc [] w0 w9 ([ck4, [(b3, ob [(v8 ((shr64 ((UInt64.ofNat len) * 8) (56 - 8 * t : Nat)).toUInt8))] 5)]]) := hL.front 1 rfl rfl
      replace hL : Vg.Loc [] w0 w9 ([ck4]) := hL.sub (.cons_cons _ (.cons _ .slnil))
      have hp := lenBytes_take (n := len) (j := t) (by omega)
      exact ⟨_, ⟨t + 1, _, _, _, _, rfl, by omega, by omega, by rw [hp, ← List.append_assoc]; exact hoe4, hT.keep [0, 3, 4, 5] rfl, hL⟩, by simp only [id]; omega⟩
    · skip
      have hc2 := of_decide_eq_false hc2
      refine wp_exit ?_
      refine then_exit ?_
      refine then_exit ?_
      refine blk_exit ?_
      refine then_norm ?_
      refine c_seq ?_
      refine c_region ?_
      refine l_q hT (q_move hT rfl) rfl rfl (by decide) ?_; clear hT; intro a hT
      refine l_q hT (q_assign hT rfl) rfl rfl (by decide) ?_; clear hT; intro a hT
      refine l_end ?_
      refine then_norm ?_
      refine wp_ret ?_
      refine c_ret (vs := [(Value.slice p0 n0 cp0)]) (rs := [.tmp 2]) hT rfl (.tmp rfl .nil) ?_
      obtain rfl : t = 8 := by omega
      have hpe := padded_eq bs; rw [hlen] at hpe; rw [hpe] at hz
      exact ⟨_, _, _, _, rfl, hL, hz⟩

set_option maxRecDepth 100000 in
set_option maxHeartbeats 4000000 in
theorem refSum_spec (bs : List UInt8) (p : Option Addr) (len cap : Nat) (hbig : len < 10000000000000) (w0 : World) (hK2 : Key2At w0) (hsl : SlB w0 p len bs) :
    Calls Tryz.prog 118 #[(Value.slice p len cap)] w0 fun e w' => e = .returned (dv (sha bs)) ∧ Ext w0 w' := by
  refine c_enter (n := 41) (args := [(Value.slice p len cap)]) Tryz.func118 rfl rfl (Nat.le_of_ble_eq_true rfl) rfl (fun a hT => ?_)
  simp only [List.zipIdx_cons, List.zipIdx_nil, List.map_cons, List.map_nil, Nat.reduceAdd] at hT
  have hL := Vg.Loc.refl [] w0
  have hlen : bs.length = len := hsl.1
  have hpl := padLen_lt len
  have hpd := padded_len bs
  refine c_seq ?_
  refine c_region ?_
  refine l_do rfl ?_
  refine w_alloc hT hL (by decide) Tryz.ty24 ?_; clear hT hL; intro b1 a w1 hT hL hE hB
  refine l_end ?_
  refine then_norm ?_
  refine c_seq ?_
  refine c_region ?_
  refine l_q hT (q_move hT rfl) rfl rfl (by decide) ?_; clear hT; intro a hT
  refine l_do rfl ?_
  refine w_callT (xs := [.tmp 8]) hT rfl (vs := [(Value.slice p len cap)]) rfl (args := #[(Value.slice p len cap)]) rfl Tryz.func153 rfl rfl (by decide) ((Padded_spec bs p len cap (by omega) _ (hsl.ext hL)).mono ?_)
  rintro e w2 ⟨pm, nm, cpm, cm, rfl, hX, hm⟩
  refine ⟨_, rfl, ?_⟩; clear hT; intro a hT; replace hT : Tm 41 a ((9, (Value.slice pm nm cpm)) :: _) := hT
  replace hL : Vg.Loc [] w0 w2 ([cm, [(b1, ob (digC Dig.zero) 24)]]) := hL.exts hX
  have hnm : (padded bs).length = nm := hm.len
  have hcm := hm.cap_le
  have hp64 := padded_64 bs
  have hpl2 := padLen_lt bs.length
  refine l_q hT (q_assign hT rfl) rfl rfl (by decide) ?_; clear hT; intro a hT
  refine l_end ?_
  refine then_norm ?_
  refine c_seq ?_
  refine c_region ?_
  refine l_do rfl ?_
  refine w_callT (xs := []) hT rfl (vs := []) rfl (args := #[]) rfl Tryz.func154 rfl rfl (by decide) ((refBegin_spec _).mono ?_)
  rintro e w3 ⟨rfl, hX⟩
  refine ⟨_, rfl, ?_⟩; clear hT; intro a hT; replace hT : Tm 41 a ((10, (Value.agg (arr32 8 ivF).toArray)) :: _) := hT
  replace hL := hL.ext hX
  refine l_do rfl ?_
  refine w_alloc hT hL (by decide) Tryz.ty189 ?_; clear hT hL; intro b2 a w4 hT hL hE hB
  refine l_do rfl ?_
  refine w_store hT hL 0 (c := arr32 8 (fun _ => 0)) rfl rfl Tryz.ty189 rfl (vs := arr32 8 ivF) rfl rfl (by first | decide | (simp [arr32_len, arr8_len, digC_len]; done) | (simp [arr32_len, arr8_len, digC_len]; omega)) rfl (c' := arr32 8 ivF) rfl ?_; clear hL; intro w5 hL hE
  replace hL : Vg.Loc [] w0 w5 ([[(b2, ob (arr32 8 ivF) 189)], cm, [(b1, ob (digC Dig.zero) 24)]]) := hL
  refine l_end ?_
  refine then_norm ?_
  refine c_seq ?_
  refine c_seq ?_
  refine c_region ?_
  refine l_q hT (q_assign hT rfl) rfl rfl (by decide) ?_; clear hT; intro a hT
  refine l_end ?_
  refine then_norm ?_
  refine wp_block ?_
  refine c_loop (fun mz a wz => ∃ k : Nat, mz = ((padded bs).length / 64) - k ∧ k ≤ ((padded bs).length / 64) ∧ Tm 41 a [(2, (vp b1 0)), (3, (Value.slice pm nm cpm)), (4, (vp b2 0)), (5, (vI ((64 * k : Nat) : Int)))] ∧ Vg.Loc [] w0 wz [[(b2, ob (arr32 8 (wordsAt (padded bs) k)) 189)], cm, [(b1, ob (digC Dig.zero) 24)]]) id (((padded bs).length / 64) - 0) ?_ ?_
  · exact ⟨0, rfl, by omega, hT.keep [2, 3, 4, 5] rfl, hL⟩
  clear hT hL
  rintro mz a w6 ⟨k, rfl, hk, hT, hL⟩
  refine c_seq ?_
  refine c_seq ?_
  refine c_region ?_
  refine l_q hT (q_move hT rfl) rfl rfl (by decide) ?_; clear hT; intro a hT
  refine l_q hT (q_move hT rfl) rfl rfl (by decide) ?_; clear hT; intro a hT
  refine l_q hT (q_len_slice hT rfl Tryz.underlying154) rfl rfl (by decide) ?_; clear hT; intro a hT
  refine l_q hT (q_lss hT rfl rfl) rfl rfl (by decide) ?_; clear hT; intro a hT
  refine l_end ?_
  refine then_norm ?_
  refine c_if hT rfl (fun hc1 => ?_) (fun hc1 => ?_)
  · skip
    have hc1 := of_decide_eq_true hc1
    refine wp_skip ?_
    refine then_norm ?_
    refine c_seq ?_
    refine wp_block ?_
    refine d_start' hL #[false, false, false, false, false, false, false, false] [7] rfl rfl rfl ?_; clear hL; intro w7 hL hE; have hR := hL; have hS := Ext.refl w7
    refine d_pure (i := 1) hT #[false, true, false, false, false, false, false, false] rfl (by kernel_rfl) rfl rfl (by decide) (fun _ _ _ h => h) (fun _ => q_move hT rfl) ?_; clear hT; intro a hT
    refine d_pure (i := 2) hT #[false, true, true, false, false, false, false, false] rfl (by kernel_rfl) rfl rfl (by decide) (fun _ _ _ h => h) (fun _ => q_move hT rfl) ?_; clear hT; intro a hT
    refine d_pure (i := 3) hT #[false, true, true, true, false, false, false, false] rfl (by kernel_rfl) rfl rfl (by decide) (fun _ _ _ h => h) (fun _ => q_move hT rfl) ?_; clear hT; intro a hT
    refine d_pure (i := 4) hT #[false, true, true, true, true, false, false, false] rfl (by kernel_rfl) rfl rfl (by decide) (fun _ _ _ h => h) (fun _ => (q_addI hT rfl rfl (r := ((64 * k : Nat) : Int) + 64) rfl (by omega) (by omega)).v (v := vI ((64 * (k + 1) : Nat) : Int)) (by congr 1)) ?_; clear hT; intro a hT
    refine d_pure (i := 5) hT #[false, true, true, true, true, true, false, false] rfl (by kernel_rfl) rfl rfl (by decide) (fun _ _ _ h => h) (fun _ => q_slice_both (l := 64 * k) (h := 64 * k + 64) hT rfl rfl rfl Tryz.sli154 (by omega) (by omega)) ?_; clear hT; intro a hT
    refine d_take (i := 0) hT #[true, true, true, true, true, true, false, false] rfl (by kernel_rfl) rfl rfl (by decide) (fun _ _ _ h => h) (fun _ hs => q_load_agg hT rfl Tryz.ty189 (Rd.ext (hR.rd 0 rfl 0 (ds := arr32 8 (wordsAt (padded bs) k)) rfl) hs) rfl) hS ?_; clear hT; intro a hT
    refine d_one (i := 6) hT #[true, true, true, true, true, true, true, false] rfl (by kernel_rfl) rfl ?_
    refine w_callT (xs := [.tmp 17, .tmp 22]) hT rfl (vs := [(Value.agg (arr32 8 (wordsAt (padded bs) k)).toArray), (Value.slice (if cpm = 64 * k then pm else pm.map (·.add (64 * k * 1))) (64 * k + 64 - 64 * k) (cpm - 64 * k))]) rfl (args := #[(Value.agg (arr32 8 (wordsAt (padded bs) k)).toArray), (Value.slice (if cpm = 64 * k then pm else pm.map (·.add (64 * k * 1))) (64 * k + 64 - 64 * k) (cpm - 64 * k))]) rfl Tryz.func155 rfl rfl (by decide) ((block_spec (wordsAt (padded bs) k) (((padded bs).drop (64 * k)).take (64 * k + 64 - 64 * k)) _ _ _ (by omega) _ (hK2.of hL (by simp)) ((OwnE.slb hm hL (i := 1) rfl).mid (by omega) (by omega) (by omega))).mono ?_)
    rintro e w8 ⟨rfl, hX⟩
    refine ⟨_, rfl, ?_⟩; clear hT; intro a hT; replace hT : Tm 41 a ((23, (Value.agg (arr32 8 (mixF (wordsAt (padded bs) k) (bufL (((padded bs).drop (64 * k)).take (64 * k + 64 - 64 * k))))).toArray)) :: _) := hT
    replace hL := hL.ext hX
    rw [words_step (padded bs) k (by omega)] at hT
    replace hS := Vg.Loc.ext hS hX; refine ⟨fun _ => hS, ?_⟩
    refine d_one (i := 7) hT #[true, true, true, true, true, true, true, true] rfl (by kernel_rfl) rfl ?_
    refine w_store hT hL 0 (c := arr32 8 (wordsAt (padded bs) k)) rfl rfl Tryz.ty189 rfl (vs := arr32 8 (wordsAt (padded bs) (k + 1))) rfl rfl (by first | decide | (simp [arr32_len, arr8_len, digC_len]; done) | (simp [arr32_len, arr8_len, digC_len]; omega)) rfl (c' := arr32 8 (wordsAt (padded bs) (k + 1))) rfl ?_; clear hL; intro w9 hL hE
    replace hL : Vg.Loc [] w0 w9 ([[(b2, ob (arr32 8 (wordsAt (padded bs) (k + 1))) 189)], cm, [(b1, ob (digC Dig.zero) 24)]]) := hL
    refine ⟨fun hn => absurd (by decide) hn, ?_⟩
    refine d_done (by kernel_rfl) ?_; clear hR hS
    refine blk_norm ?_
    refine then_norm ?_
    refine c_region ?_
    refine l_q hT (q_move hT rfl) rfl rfl (by decide) ?_; clear hT; intro a hT
    refine l_q hT ((q_addI hT rfl rfl (r := ((64 * k : Nat) : Int) + 64) rfl (by omega) (by omega)).v (v := vI ((64 * (k + 1) : Nat) : Int)) (by congr 1)) rfl rfl (by decide) ?_; clear hT; intro a hT
    refine l_q hT (q_assign hT rfl) rfl rfl (by decide) ?_; clear hT; intro a hT
    refine l_end ?_
    refine then_norm ?_
    exact ⟨_, ⟨k + 1, rfl, by omega, hT.keep [2, 3, 4, 5] rfl, hL⟩, by simp only [id]; omega⟩
  · skip
    have hc1 := of_decide_eq_false hc1
    refine wp_exit ?_
    refine then_exit ?_
    refine then_exit ?_
    refine blk_exit ?_
    refine then_norm ?_
    refine c_seq ?_
    refine c_region ?_
    refine l_do rfl ?_
    refine w_alloc hT hL (by decide) Tryz.ty24 ?_; clear hT hL; intro b3 a w10 hT hL hE hB
    refine l_end ?_
    refine then_norm ?_
    refine c_seq ?_
    refine c_seq ?_
    refine c_region ?_
    refine l_q hT (q_assign hT rfl) rfl rfl (by decide) ?_; clear hT; intro a hT
    refine l_end ?_
    refine then_norm ?_
    refine wp_block ?_
    obtain rfl : k = ((padded bs).length / 64) := by omega
    refine c_loop (fun mz a wz => ∃ t : Nat, mz = 32 - t ∧ t ≤ 32 ∧ Tm 41 a [(7, (vI (t : Int))), (2, (vp b1 0)), (4, (vp b2 0)), (6, (vp b3 0))] ∧ Vg.Loc [] w0 wz [[(b3, ob (arr8 32 (digTo (wordsAt (padded bs) ((padded bs).length / 64)) t)) 24)], [(b2, ob (arr32 8 (wordsAt (padded bs) ((padded bs).length / 64))) 189)], cm, [(b1, ob (digC Dig.zero) 24)]]) id 32 ?_ ?_
    · exact ⟨0, rfl, by omega, hT.keep [7, 2, 4, 6] rfl, by rw [← digTo_zero]; exact hL⟩
    clear hT hL
    rintro mz a w11 ⟨t, rfl, ht, hT, hL⟩
    refine c_seq ?_
    refine c_seq ?_
    refine c_region ?_
    refine l_q hT (q_move hT rfl) rfl rfl (by decide) ?_; clear hT; intro a hT
    refine l_q hT (q_lss hT rfl rfl) rfl rfl (by decide) ?_; clear hT; intro a hT
    refine l_end ?_
    refine then_norm ?_
    refine c_if hT rfl (fun hc2 => ?_) (fun hc2 => ?_)
    · skip
      have hc2 := of_decide_eq_true hc2
      refine wp_skip ?_
      refine then_norm ?_
      refine c_seq ?_
      refine wp_block ?_
      refine c_region ?_
      refine l_q hT (q_move hT rfl) rfl rfl (by decide) ?_; clear hT; intro a hT
      refine l_q hT (q_move hT rfl) rfl rfl (by decide) ?_; clear hT; intro a hT
      refine l_q hT ((q_quoI hT rfl rfl (by omega) (by omega) (by omega)).v (v := vI ((t / 4 : Nat) : Int)) rfl) rfl rfl (by decide) ?_; clear hT; intro a hT
      refine l_q hT ((q_indexAddr_arr hT rfl rfl Tryz.arr189 (by omega) (by omega)).v (v := vp b2 (0 + (t / 4 : Nat))) (by simp)) rfl rfl (by decide) ?_; clear hT; intro a hT
      refine l_q hT (q_load hT rfl Tryz.ty188 (Rd.at32 (hL.rd 1 rfl 0 (ds := arr32 8 (wordsAt (padded bs) ((padded bs).length / 64))) rfl) (i := (t / 4 : Nat)) (by omega))) rfl rfl (by decide) ?_; clear hT; intro a hT
      refine l_q hT (q_move hT rfl) rfl rfl (by decide) ?_; clear hT; intro a hT
      refine l_q hT ((q_remI hT rfl rfl (by omega) (by omega)).v (v := vI ((t % 4 : Nat) : Int)) rfl) rfl rfl (by decide) ?_; clear hT; intro a hT
      refine l_q hT (q_mulI hT rfl rfl (r := 8 * ((t % 4 : Nat) : Int)) rfl (by omega) (by omega)) rfl rfl (by decide) ?_; clear hT; intro a hT
      refine l_q hT ((q_subI hT rfl rfl (r := 24 - 8 * ((t % 4 : Nat) : Int)) rfl (by omega) (by omega)).v (v := vI ((24 - 8 * (t % 4) : Nat) : Int)) (by congr 1; omega)) rfl rfl (by decide) ?_; clear hT; intro a hT
      refine l_q hT (q_shr32 (u := (wordsAt (padded bs) ((padded bs).length / 64)) (t / 4 : Nat)) (s := (24 - 8 * (t % 4) : Nat)) hT rfl rfl (by omega)) rfl rfl (by decide) ?_; clear hT; intro a hT
      refine l_q hT (q_conv_32_8 hT rfl Tryz.underlying188 Tryz.underlying5) rfl rfl (by decide) ?_; clear hT; intro a hT
      refine l_q hT ((q_indexAddr_arr hT rfl rfl Tryz.arr24 (by omega) (by omega)).v (v := vp b3 (0 + t)) (by simp)) rfl rfl (by decide) ?_; clear hT; intro a hT
      refine l_do rfl ?_
      refine w_store hT hL 0 (c := arr8 32 (digTo (wordsAt (padded bs) ((padded bs).length / 64)) t)) rfl rfl Tryz.ty5 rfl (vs := [(v8 ((shr32 ((wordsAt (padded bs) ((padded bs).length / 64)) (t / 4 : Nat)) (24 - 8 * (t % 4) : Nat)).toUInt8))]) rfl rfl (by simp [arr32_len, arr8_len, digC_len]; omega) rfl (c' := arr8 32 (upd (digTo (wordsAt (padded bs) ((padded bs).length / 64)) t) t ((shr32 ((wordsAt (padded bs) ((padded bs).length / 64)) (t / 4 : Nat)) (24 - 8 * (t % 4) : Nat)).toUInt8))) (lay_at (pre := []) (mid := arr8 32 (digTo (wordsAt (padded bs) ((padded bs).length / 64)) t)) (post := []) (i := t) (by simp [digC_arr]) (by simp [arr32_len, arr8_len, digC_len]) (by simp [arr32_len, arr8_len, digC_len]; omega) (lay_arr8_one _ _ (by omega)) (by simp)) ?_; clear hL; intro w12 hL hE
      replace hL : Vg.Loc [] w0 w12 ([[(b3, ob (arr8 32 (upd (digTo (wordsAt (padded bs) ((padded bs).length / 64)) t) t ((shr32 ((wordsAt (padded bs) ((padded bs).length / 64)) (t / 4 : Nat)) (24 - 8 * (t % 4) : Nat)).toUInt8))) 24)], [(b2, ob (arr32 8 (wordsAt (padded bs) ((padded bs).length / 64))) 189)], cm, [(b1, ob (digC Dig.zero) 24)]]) := hL
      refine l_end ?_
      refine blk_norm ?_
      refine then_norm ?_
      refine c_region ?_
      refine l_q hT (q_move hT rfl) rfl rfl (by decide) ?_; clear hT; intro a hT
      refine l_q hT (q_addI hT rfl rfl (r := (t : Int) + 1) rfl (by omega) (by omega)) rfl rfl (by decide) ?_; clear hT; intro a hT
      refine l_q hT (q_assign hT rfl) rfl rfl (by decide) ?_; clear hT; intro a hT
      refine l_end ?_
      refine then_norm ?_
      exact ⟨_, ⟨t + 1, rfl, by omega, hT.keep [7, 2, 4, 6] rfl, by rw [digTo_succ]; exact hL⟩, by simp only [id]; omega⟩
    · skip
      have hc2 := of_decide_eq_false hc2
      obtain rfl : t = 32 := by omega
      refine wp_exit ?_
      refine then_exit ?_
      refine then_exit ?_
      refine blk_exit ?_
      refine then_norm ?_
      refine c_seq ?_
      refine c_region ?_
      refine l_q hT (q_load_agg hT rfl Tryz.ty24 (hL.rd 0 rfl 0 (ds := arr8 32 (digTo (wordsAt (padded bs) ((padded bs).length / 64)) 32)) rfl) rfl) rfl rfl (by decide) ?_; clear hT; intro a hT
      refine l_do rfl ?_
      refine w_store hT hL 3 (c := digC Dig.zero) rfl rfl Tryz.ty24 rfl (vs := arr8 32 (digTo (wordsAt (padded bs) ((padded bs).length / 64)) 32)) rfl rfl (by first | decide | (simp [arr32_len, arr8_len, digC_len]; done) | (simp [arr32_len, arr8_len, digC_len]; omega)) rfl (c' := arr8 32 (digTo (wordsAt (padded bs) ((padded bs).length / 64)) 32)) rfl ?_; clear hL; intro w13 hL hE
      replace hL : Vg.Loc [] w0 w13 ([[(b3, ob (arr8 32 (digTo (wordsAt (padded bs) ((padded bs).length / 64)) 32)) 24)], [(b2, ob (arr32 8 (wordsAt (padded bs) ((padded bs).length / 64))) 189)], cm, [(b1, ob (arr8 32 (digTo (wordsAt (padded bs) ((padded bs).length / 64)) 32)) 24)]]) := hL
      refine l_end ?_
      refine then_norm ?_
      refine wp_ret ?_
      refine c_ret (vs := [(Value.agg (arr8 32 (digTo (wordsAt (padded bs) ((padded bs).length / 64)) 32)).toArray)]) (rs := [.cell 2 24]) hT rfl (.agg rfl Tryz.ty24 (hL.rd 3 rfl 0 (ds := arr8 32 (digTo (wordsAt (padded bs) ((padded bs).length / 64)) 32)) rfl) rfl .nil) ?_
      refine ⟨?_, hL.drop⟩
      simp only [packed]
      rw [digTo_all]; rfl
end Go.Proofs.YtcaffacganffjaaGreatDoor
end

section
namespace Go.Proofs.YtcaffacganffjaaGreatDoor
open Go Go.Vg


set_option maxRecDepth 20000 in
set_option maxHeartbeats 1000000 in
theorem refShort_in (wn : Nat) (hw : wn ≤ 32) (bs : List UInt8) (p : Option Addr) (len cap : Nat) (hbig : len < 10000000000) (w0 : World) (hK2 : Key2At w0) (hsl : SlB w0 p len bs) :
    Calls Tryz.prog 136 #[(vI (wn : Int)), (Value.slice p len cap)] w0 fun e w' => e = .returned (.tuple #[dv (shortD (wn : Int) (sha bs)), vI 0]) ∧ Ext w0 w' := by
  refine c_enter (n := 26) (args := [(vI (wn : Int)), (Value.slice p len cap)]) Tryz.func136 rfl rfl (Nat.le_of_ble_eq_true rfl) rfl (fun a hT => ?_)
  simp only [List.zipIdx_cons, List.zipIdx_nil, List.map_cons, List.map_nil, Nat.reduceAdd] at hT
  have hL := Vg.Loc.refl [] w0
  refine c_seq ?_
  refine c_region ?_
  refine l_do rfl ?_
  refine w_alloc hT hL (by decide) Tryz.ty24 ?_; clear hT hL; intro b1 a w1 hT hL hE hB
  refine l_q hT (q_assign hT rfl) rfl rfl (by decide) ?_; clear hT; intro a hT
  refine l_end ?_
  refine then_norm ?_
  refine c_seq ?_
  refine c_region ?_
  refine l_do rfl ?_
  refine w_alloc hT hL (by decide) Tryz.ty24 ?_; clear hT hL; intro b2 a w2 hT hL hE hB
  refine l_end ?_
  refine then_norm ?_
  refine c_seq ?_
  refine c_seq ?_
  refine c_region ?_
  refine l_q hT (q_move hT rfl) rfl rfl (by decide) ?_; clear hT; intro a hT
  refine l_do rfl ?_
  refine w_callT (xs := [.tmp 9]) hT rfl (vs := [(vI (wn : Int))]) rfl (args := #[(vI (wn : Int))]) rfl Tryz.func12 rfl rfl (by decide) ((refWidth_spec ((wn : Int)) _).mono ?_)
  rintro e w3 ⟨rfl, hX⟩
  refine ⟨_, rfl, ?_⟩; clear hT; intro a hT; replace hT : Tm 26 a ((10, (Value.bool (widthB (wn : Int)))) :: _) := hT
  replace hL := hL.ext hX
  rw [(show widthB (wn : Int) = true by simp [widthB]; omega)] at hT
  refine l_q hT ((q_not hT rfl).b rfl) rfl rfl (by decide) ?_; clear hT; intro a hT
  refine l_end ?_
  refine then_norm ?_
  refine c_false hT rfl rfl ?_
  refine wp_skip ?_
  refine then_norm ?_
  refine c_seq ?_
  refine c_region ?_
  refine l_q hT (q_move hT rfl) rfl rfl (by decide) ?_; clear hT; intro a hT
  refine l_do rfl ?_
  refine w_callT (xs := [.tmp 13]) hT rfl (vs := [(Value.slice p len cap)]) rfl (args := #[(Value.slice p len cap)]) rfl Tryz.func118 rfl rfl (by decide) ((refSum_spec bs _ _ _ (by omega) _ (hK2.of hL (by simp)) (hsl.ext hL)).mono ?_)
  rintro e w4 ⟨rfl, hX⟩
  refine ⟨_, rfl, ?_⟩; clear hT; intro a hT; replace hT : Tm 26 a ((14, (Value.agg (digC (sha bs)).toArray)) :: _) := hT
  replace hL := hL.ext hX
  refine l_do rfl ?_
  refine w_alloc hT hL (by decide) Tryz.ty24 ?_; clear hT hL; intro b3 a w5 hT hL hE hB
  refine l_do rfl ?_
  refine w_store hT hL 0 (c := digC Dig.zero) rfl rfl Tryz.ty24 rfl (vs := digC (sha bs)) rfl rfl (by first | decide | (simp [arr32_len, arr8_len, digC_len]; done) | (simp [arr32_len, arr8_len, digC_len]; omega)) rfl (c' := digC (sha bs)) rfl ?_; clear hL; intro w6 hL hE
  replace hL : Vg.Loc [] w0 w6 ([[(b3, ob (digC (sha bs)) 24)], [(b2, ob (digC Dig.zero) 24)], [(b1, ob (digC Dig.zero) 24)]]) := hL
  refine l_end ?_
  refine then_norm ?_
  refine c_seq ?_
  refine c_seq ?_
  refine c_region ?_
  refine l_q hT (q_assign hT rfl) rfl rfl (by decide) ?_; clear hT; intro a hT
  refine l_end ?_
  refine then_norm ?_
  refine wp_block ?_
  refine c_loop (fun mz a wz => ∃ t : Nat, mz = wn - t ∧ t ≤ wn ∧ Tm 26 a [(0, (vI (wn : Int))), (4, (vp b1 0)), (6, (vp b2 0)), (7, (vp b3 0)), (8, (vI (t : Int)))] ∧ Vg.Loc [] w0 wz [[(b3, ob (digC (sha bs)) 24)], [(b2, ob (arr8 32 (cpTo (sha bs) t)) 24)], [(b1, ob (digC Dig.zero) 24)]]) id (wn - 0) ?_ ?_
  · exact ⟨0, rfl, by omega, hT.keep [0, 4, 6, 7, 8] rfl, by rw [← cpTo_zero]; exact hL⟩
  clear hT hL
  rintro mz a w7 ⟨t, rfl, ht, hT, hL⟩
  refine c_seq ?_
  refine c_seq ?_
  refine c_region ?_
  refine l_q hT (q_move hT rfl) rfl rfl (by decide) ?_; clear hT; intro a hT
  refine l_q hT (q_move hT rfl) rfl rfl (by decide) ?_; clear hT; intro a hT
  refine l_q hT (q_lss hT rfl rfl) rfl rfl (by decide) ?_; clear hT; intro a hT
  refine l_end ?_
  refine then_norm ?_
  refine c_if hT rfl (fun hc1 => ?_) (fun hc1 => ?_)
  · skip
    have hc1 := of_decide_eq_true hc1
    refine wp_skip ?_
    refine then_norm ?_
    refine c_seq ?_
    refine wp_block ?_
    refine c_region ?_
    refine l_q hT (q_move hT rfl) rfl rfl (by decide) ?_; clear hT; intro a hT
    refine l_q hT (q_move hT rfl) rfl rfl (by decide) ?_; clear hT; intro a hT
    refine l_q hT ((q_indexAddr_arr hT rfl rfl Tryz.arr24 (by omega) (by omega)).v (v := vp b3 (0 + t)) (by simp)) rfl rfl (by decide) ?_; clear hT; intro a hT
    refine l_q hT (q_load hT rfl Tryz.ty5 (Rd.at8 (hL.rd 0 rfl 0 (ds := arr8 32 ((sha bs).get)) rfl) (i := t) (by omega))) rfl rfl (by decide) ?_; clear hT; intro a hT
    refine l_q hT ((q_indexAddr_arr hT rfl rfl Tryz.arr24 (by omega) (by omega)).v (v := vp b2 (0 + t)) (by simp)) rfl rfl (by decide) ?_; clear hT; intro a hT
    refine l_do rfl ?_
    refine w_store hT hL 1 (c := arr8 32 (cpTo (sha bs) t)) rfl rfl Tryz.ty5 rfl (vs := [(v8 (((sha bs).get) t))]) rfl rfl (by simp [arr32_len, arr8_len, digC_len]; omega) rfl (c' := arr8 32 (upd (cpTo (sha bs) t) t (((sha bs).get) t))) (lay_at (pre := []) (mid := arr8 32 (cpTo (sha bs) t)) (post := []) (i := t) (by simp [digC_arr]) (by simp [arr32_len, arr8_len, digC_len]) (by simp [arr32_len, arr8_len, digC_len]; omega) (lay_arr8_one _ _ (by omega)) (by simp)) ?_; clear hL; intro w8 hL hE
    replace hL : Vg.Loc [] w0 w8 ([[(b3, ob (digC (sha bs)) 24)], [(b2, ob (arr8 32 (upd (cpTo (sha bs) t) t (((sha bs).get) t))) 24)], [(b1, ob (digC Dig.zero) 24)]]) := hL
    refine l_end ?_
    refine blk_norm ?_
    refine then_norm ?_
    refine c_region ?_
    refine l_q hT (q_move hT rfl) rfl rfl (by decide) ?_; clear hT; intro a hT
    refine l_q hT (q_addI hT rfl rfl (r := (t : Int) + 1) rfl (by omega) (by omega)) rfl rfl (by decide) ?_; clear hT; intro a hT
    refine l_q hT (q_assign hT rfl) rfl rfl (by decide) ?_; clear hT; intro a hT
    refine l_end ?_
    refine then_norm ?_
    exact ⟨_, ⟨t + 1, rfl, by omega, hT.keep [0, 4, 6, 7, 8] rfl, by rw [cpTo_succ]; exact hL⟩, by simp only [id]; omega⟩
  · skip
    have hc1 := of_decide_eq_false hc1
    obtain rfl : t = wn := by omega
    refine wp_exit ?_
    refine then_exit ?_
    refine then_exit ?_
    refine blk_exit ?_
    refine then_norm ?_
    refine c_seq ?_
    refine c_region ?_
    refine l_q hT (q_load_agg hT rfl Tryz.ty24 (hL.rd 1 rfl 0 (ds := arr8 32 (cpTo (sha bs) t)) rfl) rfl) rfl rfl (by decide) ?_; clear hT; intro a hT
    refine l_do rfl ?_
    refine w_store hT hL 2 (c := digC Dig.zero) rfl rfl Tryz.ty24 rfl (vs := arr8 32 (cpTo (sha bs) t)) rfl rfl (by first | decide | (simp [arr32_len, arr8_len, digC_len]; done) | (simp [arr32_len, arr8_len, digC_len]; omega)) rfl (c' := arr8 32 (cpTo (sha bs) t)) rfl ?_; clear hL; intro w9 hL hE
    replace hL : Vg.Loc [] w0 w9 ([[(b3, ob (digC (sha bs)) 24)], [(b2, ob (arr8 32 (cpTo (sha bs) t)) 24)], [(b1, ob (arr8 32 (cpTo (sha bs) t)) 24)]]) := hL
    refine l_q hT (q_assign hT rfl) rfl rfl (by decide) ?_; clear hT; intro a hT
    refine l_end ?_
    refine then_norm ?_
    refine wp_ret ?_
    refine c_ret (vs := [(Value.agg (arr8 32 (cpTo (sha bs) t)).toArray), (vI 0)]) (rs := [.cell 4 24, .tmp 5]) hT rfl (.agg rfl Tryz.ty24 (hL.rd 2 rfl 0 (ds := arr8 32 (cpTo (sha bs) t)) rfl) rfl (.tmp rfl .nil)) ?_
    refine ⟨?_, hL.drop⟩; simp only [packed]; rw [cpTo_all _ _ hw]

set_option maxRecDepth 20000 in
set_option maxHeartbeats 1000000 in
theorem refShort_out (w : Int) (hw : ¬ (0 ≤ w ∧ w ≤ 32)) (bs : List UInt8) (p : Option Addr) (len cap : Nat) (w0 : World) :
    Calls Tryz.prog 136 #[(vI w), (Value.slice p len cap)] w0 fun e w' => e = .returned (.tuple #[dv (shortD w (sha bs)), vI 1]) ∧ Ext w0 w' := by
  refine c_enter (n := 26) (args := [(vI w), (Value.slice p len cap)]) Tryz.func136 rfl rfl (Nat.le_of_ble_eq_true rfl) rfl (fun a hT => ?_)
  simp only [List.zipIdx_cons, List.zipIdx_nil, List.map_cons, List.map_nil, Nat.reduceAdd] at hT
  have hL := Vg.Loc.refl [] w0
  refine c_seq ?_
  refine c_region ?_
  refine l_do rfl ?_
  refine w_alloc hT hL (by decide) Tryz.ty24 ?_; clear hT hL; intro b1 a w1 hT hL hE hB
  refine l_q hT (q_assign hT rfl) rfl rfl (by decide) ?_; clear hT; intro a hT
  refine l_end ?_
  refine then_norm ?_
  refine c_seq ?_
  refine c_region ?_
  refine l_do rfl ?_
  refine w_alloc hT hL (by decide) Tryz.ty24 ?_; clear hT hL; intro b2 a w2 hT hL hE hB
  refine l_end ?_
  refine then_norm ?_
  refine c_seq ?_
  refine c_seq ?_
  refine c_region ?_
  refine l_q hT (q_move hT rfl) rfl rfl (by decide) ?_; clear hT; intro a hT
  refine l_do rfl ?_
  refine w_callT (xs := [.tmp 9]) hT rfl (vs := [(vI w)]) rfl (args := #[(vI w)]) rfl Tryz.func12 rfl rfl (by decide) ((refWidth_spec (w) _).mono ?_)
  rintro e w3 ⟨rfl, hX⟩
  refine ⟨_, rfl, ?_⟩; clear hT; intro a hT; replace hT : Tm 26 a ((10, (Value.bool (widthB w))) :: _) := hT
  replace hL := hL.ext hX
  rw [(show widthB w = false by simp [widthB]; omega)] at hT
  refine l_q hT ((q_not hT rfl).b rfl) rfl rfl (by decide) ?_; clear hT; intro a hT
  refine l_end ?_
  refine then_norm ?_
  refine c_true hT rfl rfl ?_
  refine c_seq ?_
  refine c_region ?_
  refine l_q hT (q_load_agg hT rfl Tryz.ty24 (hL.rd 0 rfl 0 (ds := digC Dig.zero) rfl) rfl) rfl rfl (by decide) ?_; clear hT; intro a hT
  refine l_do rfl ?_
  refine w_store hT hL 1 (c := digC Dig.zero) rfl rfl Tryz.ty24 rfl (vs := digC Dig.zero) rfl rfl (by first | decide | (simp [arr32_len, arr8_len, digC_len]; done) | (simp [arr32_len, arr8_len, digC_len]; omega)) rfl (c' := digC Dig.zero) rfl ?_; clear hL; intro w4 hL hE
  replace hL : Vg.Loc [] w0 w4 ([[(b2, ob (digC Dig.zero) 24)], [(b1, ob (digC Dig.zero) 24)]]) := hL
  refine l_q hT (q_assign hT rfl) rfl rfl (by decide) ?_; clear hT; intro a hT
  refine l_end ?_
  refine then_norm ?_
  refine wp_ret ?_
  refine then_ret ?_
  refine c_ret (vs := [(Value.agg (digC Dig.zero).toArray), (vI 1)]) (rs := [.cell 4 24, .tmp 5]) hT rfl (.agg rfl Tryz.ty24 (hL.rd 1 rfl 0 (ds := digC Dig.zero) rfl) rfl (.tmp rfl .nil)) ?_
  refine ⟨?_, hL.drop⟩; simp only [packed]; rw [short_zero hw]

theorem refShort_spec (w : Int) (bs : List UInt8) (p : Option Addr) (len cap : Nat) (hbig : len < 10000000000) (w0 : World) (hK2 : Key2At w0) (hsl : SlB w0 p len bs) : Calls Tryz.prog 136 #[vI w, .slice p len cap] w0 fun e w' => e = .returned (.tuple #[dv (shortD w (sha bs)), vI (if widthB w then 0 else 1)]) ∧ Ext w0 w' := by
  by_cases h : 0 ≤ w ∧ w ≤ 32
  · obtain ⟨wn, rfl⟩ := Int.eq_ofNat_of_zero_le h.1
    rw [show widthB (wn : Int) = true by simp [widthB]; omega]
    exact refShort_in wn (by omega) bs p len cap hbig w0 hK2 hsl
  · rw [show widthB w = false by simp [widthB]; omega]
    exact refShort_out w h bs p len cap w0

end Go.Proofs.YtcaffacganffjaaGreatDoor
end

section
namespace Go.Proofs.YtcaffacganffjaaGreatDoor
open Go Go.Vg


set_option maxRecDepth 20000 in
set_option maxHeartbeats 1000000 in
theorem LeafBytes_spec (l : Leaf) (w0 : World) :
    Calls Tryz.prog 137 #[(Value.agg (digC l.p ++ (digC l.v)).toArray)] w0 fun e w' => ∃ p' cap' c, e = .returned (.slice p' 65 cap') ∧ Vg.Loc [] w0 w' [c] ∧ OwnB 5 p' 65 cap' (0 :: catD [l.p, l.v]) c := by
  refine c_enter (n := 14) (args := [(Value.agg (digC l.p ++ (digC l.v)).toArray)]) Tryz.func137 rfl rfl (Nat.le_of_ble_eq_true rfl) rfl (fun a hT => ?_)
  simp only [List.zipIdx_cons, List.zipIdx_nil, List.map_cons, List.map_nil, Nat.reduceAdd] at hT
  have hL := Vg.Loc.refl [] w0
  refine c_seq ?_
  refine c_region ?_
  refine l_do rfl ?_
  refine w_box hT hL (by decide) rfl (c := digC l.p ++ (digC l.v)) rfl ?_; clear hT hL; intro b1 a w1 hT hL hE hB
  refine l_q hT (q_assign hT rfl) rfl rfl (by decide) ?_; clear hT; intro a hT
  refine l_end ?_
  refine then_norm ?_
  refine c_seq ?_
  refine c_region ?_
  refine l_do rfl ?_
  refine w_buildSlice (e := 5) (ps := [(0, .const (.int .u8 0))]) (pv := [(0, (v8 0))]) (c := [(v8 0)]) hT hL (by decide) rfl (fun _ => by kernel_rfl) ?_; clear hT hL; intro b2 a w2 hT hL hE hB
  refine l_q hT (q_assign hT rfl) rfl rfl (by decide) ?_; clear hT; intro a hT
  refine l_end ?_
  refine then_norm ?_
  refine c_seq ?_
  refine c_region ?_
  refine l_q hT (q_move hT rfl) rfl rfl (by decide) ?_; clear hT; intro a hT
  refine l_q hT (q_fieldAddr hT rfl Tryz.fld85_0 rfl) rfl rfl (by decide) ?_; clear hT; intro a hT
  refine l_q hT (q_slice_arr hT rfl Tryz.arr24 (by omega)) rfl rfl (by decide) ?_; clear hT; intro a hT
  refine l_do rfl ?_
  have hlit1 : OwnB 5 (some ⟨b2, 0, none⟩) 1 1 [0] [(b2, ob [(v8 0)] 5)] := OwnE.lit rfl (by decide)
  have hsr1 := ((SlB.dig (hL.rd 1 rfl 0 (ds := digC l.p) rfl))).src
  refine w_append hT hL (by decide) 0 rfl rfl rfl Tryz.app154 (by decide) rfl hlit1.2 hsr1 (by omega) (by simp only [maxLen]; omega) ?_; clear hT hL; intro p1 cap1 ck1 a w3 how1 hT hL
  replace hL : Vg.Loc [] w0 w3 ([ck1, [(b1, ob (digC l.p ++ (digC l.v)) 85)]]) := hL
  have hoe1 := OwnE.more hlit1 (l' := l.p.l) (Dig.h _) how1
  refine l_q hT (q_assign hT rfl) rfl rfl (by decide) ?_; clear hT; intro a hT
  refine l_end ?_
  refine then_norm ?_
  refine c_seq ?_
  refine c_region ?_
  refine l_q hT (q_move hT rfl) rfl rfl (by decide) ?_; clear hT; intro a hT
  refine l_q hT (q_fieldAddr hT rfl Tryz.fld85_1 rfl) rfl rfl (by decide) ?_; clear hT; intro a hT
  refine l_q hT (q_slice_arr hT rfl Tryz.arr24 (by omega)) rfl rfl (by decide) ?_; clear hT; intro a hT
  refine l_do rfl ?_
  have hsr2 := ((SlB.dig (hL.rd 1 rfl 32 (ds := digC l.v) rfl))).src
  refine w_append hT hL (by decide) 0 rfl rfl rfl Tryz.app154 (by decide) rfl hoe1.2 hsr2 (by omega) (by simp only [maxLen]; omega) ?_; clear hT hL; intro p2 cap2 ck2 a w4 how2 hT hL
  replace hL : Vg.Loc [] w0 w4 ([ck2, [(b1, ob (digC l.p ++ (digC l.v)) 85)]]) := hL
  have hoe2 := OwnE.more hoe1 (l' := l.v.l) (Dig.h _) how2
  refine l_q hT (q_assign hT rfl) rfl rfl (by decide) ?_; clear hT; intro a hT
  refine l_end ?_
  refine then_norm ?_
  refine c_seq ?_
  refine c_region ?_
  refine l_q hT (q_move hT rfl) rfl rfl (by decide) ?_; clear hT; intro a hT
  refine l_q hT (q_assign hT rfl) rfl rfl (by decide) ?_; clear hT; intro a hT
  refine l_end ?_
  refine then_norm ?_
  refine wp_ret ?_
  refine c_ret (vs := [(Value.slice p2 ((1 + 32) + 32) cap2)]) (rs := [.tmp 2]) hT rfl (.tmp rfl .nil) ?_
  have hz := hoe2; rw [leaf_bytes l] at hz
  replace hL : Vg.Loc [] w0 w4 ([ck2]) := hL.sub (.cons_cons _ (.cons _ .slnil))
  exact ⟨_, _, _, rfl, hL, hz⟩

set_option maxRecDepth 20000 in
set_option maxHeartbeats 1000000 in
theorem NodeBytes_spec (x y : Dig) (w0 : World) :
    Calls Tryz.prog 138 #[(Value.agg (digC x).toArray), (Value.agg (digC y).toArray)] w0 fun e w' => ∃ p' cap' c, e = .returned (.slice p' 65 cap') ∧ Vg.Loc [] w0 w' [c] ∧ OwnB 5 p' 65 cap' (1 :: catD [x, y]) c := by
  refine c_enter (n := 14) (args := [(Value.agg (digC x).toArray), (Value.agg (digC y).toArray)]) Tryz.func138 rfl rfl (Nat.le_of_ble_eq_true rfl) rfl (fun a hT => ?_)
  simp only [List.zipIdx_cons, List.zipIdx_nil, List.map_cons, List.map_nil, Nat.reduceAdd] at hT
  have hL := Vg.Loc.refl [] w0
  refine c_seq ?_
  refine c_region ?_
  refine l_do rfl ?_
  refine w_box hT hL (by decide) rfl (c := digC x) rfl ?_; clear hT hL; intro b1 a w1 hT hL hE hB
  refine l_do rfl ?_
  refine w_box hT hL (by decide) rfl (c := digC y) rfl ?_; clear hT hL; intro b2 a w2 hT hL hE hB
  refine l_q hT (q_assign hT rfl) rfl rfl (by decide) ?_; clear hT; intro a hT
  refine l_end ?_
  refine then_norm ?_
  refine c_seq ?_
  refine c_region ?_
  refine l_do rfl ?_
  refine w_buildSlice (e := 5) (ps := [(0, .const (.int .u8 1))]) (pv := [(0, (v8 1))]) (c := [(v8 1)]) hT hL (by decide) rfl (fun _ => by kernel_rfl) ?_; clear hT hL; intro b3 a w3 hT hL hE hB
  refine l_q hT (q_assign hT rfl) rfl rfl (by decide) ?_; clear hT; intro a hT
  refine l_end ?_
  refine then_norm ?_
  refine c_seq ?_
  refine c_region ?_
  refine l_q hT (q_move hT rfl) rfl rfl (by decide) ?_; clear hT; intro a hT
  refine l_q hT (q_slice_arr hT rfl Tryz.arr24 (by omega)) rfl rfl (by decide) ?_; clear hT; intro a hT
  refine l_do rfl ?_
  have hlit1 : OwnB 5 (some ⟨b3, 0, none⟩) 1 1 [1] [(b3, ob [(v8 1)] 5)] := OwnE.lit rfl (by decide)
  have hsr1 := ((SlB.dig (hL.rd 2 rfl 0 (ds := digC x) rfl))).src
  refine w_append hT hL (by decide) 0 rfl rfl rfl Tryz.app154 (by decide) rfl hlit1.2 hsr1 (by omega) (by simp only [maxLen]; omega) ?_; clear hT hL; intro p1 cap1 ck1 a w4 how1 hT hL
  replace hL : Vg.Loc [] w0 w4 ([ck1, [(b2, ob (digC y) 24)], [(b1, ob (digC x) 24)]]) := hL
  have hoe1 := OwnE.more hlit1 (l' := x.l) (Dig.h _) how1
  refine l_q hT (q_assign hT rfl) rfl rfl (by decide) ?_; clear hT; intro a hT
  refine l_end ?_
  refine then_norm ?_
  refine c_seq ?_
  refine c_region ?_
  refine l_q hT (q_move hT rfl) rfl rfl (by decide) ?_; clear hT; intro a hT
  refine l_q hT (q_slice_arr hT rfl Tryz.arr24 (by omega)) rfl rfl (by decide) ?_; clear hT; intro a hT
  refine l_do rfl ?_
  have hsr2 := ((SlB.dig (hL.rd 1 rfl 0 (ds := digC y) rfl))).src
  refine w_append hT hL (by decide) 0 rfl rfl rfl Tryz.app154 (by decide) rfl hoe1.2 hsr2 (by omega) (by simp only [maxLen]; omega) ?_; clear hT hL; intro p2 cap2 ck2 a w5 how2 hT hL
  replace hL : Vg.Loc [] w0 w5 ([ck2, [(b2, ob (digC y) 24)], [(b1, ob (digC x) 24)]]) := hL
  have hoe2 := OwnE.more hoe1 (l' := y.l) (Dig.h _) how2
  refine l_q hT (q_assign hT rfl) rfl rfl (by decide) ?_; clear hT; intro a hT
  refine l_end ?_
  refine then_norm ?_
  refine c_seq ?_
  refine c_region ?_
  refine l_q hT (q_move hT rfl) rfl rfl (by decide) ?_; clear hT; intro a hT
  refine l_q hT (q_assign hT rfl) rfl rfl (by decide) ?_; clear hT; intro a hT
  refine l_end ?_
  refine then_norm ?_
  refine wp_ret ?_
  refine c_ret (vs := [(Value.slice p2 ((1 + 32) + 32) cap2)]) (rs := [.tmp 4]) hT rfl (.tmp rfl .nil) ?_
  have hz := hoe2; rw [node_bytes x y] at hz
  replace hL : Vg.Loc [] w0 w5 ([ck2]) := hL.sub (.cons_cons _ (.cons _ (.cons _ .slnil)))
  exact ⟨_, _, _, rfl, hL, hz⟩

set_option maxRecDepth 20000 in
set_option maxHeartbeats 1000000 in
theorem refEmpty_spec (w : Int) (w0 : World) (hK2 : Key2At w0) :
    Calls Tryz.prog 94 #[(vI w)] w0 fun e w' => e = .returned (dv (emptyD w)) ∧ Ext w0 w' := by
  refine c_enter (n := 12) (args := [(vI w)]) Tryz.func94 rfl rfl (Nat.le_of_ble_eq_true rfl) rfl (fun a hT => ?_)
  simp only [List.zipIdx_cons, List.zipIdx_nil, List.map_cons, List.map_nil, Nat.reduceAdd] at hT
  have hL := Vg.Loc.refl [] w0
  refine c_seq ?_
  refine c_region ?_
  refine l_do rfl ?_
  refine w_alloc hT hL (by decide) Tryz.ty24 ?_; clear hT hL; intro b1 a w1 hT hL hE hB
  refine l_end ?_
  refine then_norm ?_
  refine c_seq ?_
  refine c_region ?_
  refine l_q hT (q_move hT rfl) rfl rfl (by decide) ?_; clear hT; intro a hT
  refine l_do rfl ?_
  refine w_buildSlice (e := 5) (ps := [(0, .const (.int .u8 2))]) (pv := [(0, (v8 2))]) (c := [(v8 2)]) hT hL (by decide) rfl (fun _ => by kernel_rfl) ?_; clear hT hL; intro b2 a w2 hT hL hE hB
  refine l_do rfl ?_
  refine w_callT (xs := [.tmp 6, .tmp 7]) hT rfl (vs := [(vI w), (Value.slice (some ⟨b2, 0, none⟩) 1 1)]) rfl (args := #[(vI w), (Value.slice (some ⟨b2, 0, none⟩) 1 1)]) rfl Tryz.func136 rfl rfl (by decide) ((refShort_spec w [2] _ _ _ (by first | decide | omega) _ (hK2.of hL (by simp)) (SlB.of (hL.rd 0 rfl 0 (ds := byC [2]) rfl))).mono ?_)
  rintro e w3 ⟨rfl, hX⟩
  refine ⟨_, rfl, ?_⟩; clear hT; intro a hT; replace hT : Tm 12 a ((8, (Value.tuple #[(Value.agg (digC (shortD w (sha [2]))).toArray), (vI (if widthB w then 0 else 1))])) :: _) := hT
  replace hL := hL.ext hX
  refine l_q hT (q_move hT rfl) rfl rfl (by decide) ?_; clear hT; intro a hT
  refine l_q hT (q_extract hT rfl rfl) rfl rfl (by decide) ?_; clear hT; intro a hT
  refine l_q hT (q_extract hT rfl rfl) rfl rfl (by decide) ?_; clear hT; intro a hT
  refine l_do rfl ?_
  refine w_alloc hT hL (by decide) Tryz.ty24 ?_; clear hT hL; intro b3 a w4 hT hL hE hB
  refine l_do rfl ?_
  refine w_store hT hL 0 (c := digC Dig.zero) rfl rfl Tryz.ty24 rfl (vs := digC (shortD w (sha [2]))) rfl rfl (by first | decide | (simp [arr32_len, arr8_len, digC_len]; done) | (simp [arr32_len, arr8_len, digC_len]; omega)) rfl (c' := digC (shortD w (sha [2]))) rfl ?_; clear hL; intro w5 hL hE
  replace hL : Vg.Loc [] w0 w5 ([[(b3, ob (digC (shortD w (sha [2]))) 24)], [(b2, ob [(v8 2)] 5)], [(b1, ob (digC Dig.zero) 24)]]) := hL
  refine l_q hT (q_assign hT rfl) rfl rfl (by decide) ?_; clear hT; intro a hT
  refine l_end ?_
  refine then_norm ?_
  refine c_seq ?_
  refine c_region ?_
  refine l_q hT (q_load_agg hT rfl Tryz.ty24 (hL.rd 0 rfl 0 (ds := digC (shortD w (sha [2]))) rfl) rfl) rfl rfl (by decide) ?_; clear hT; intro a hT
  refine l_do rfl ?_
  refine w_store hT hL 2 (c := digC Dig.zero) rfl rfl Tryz.ty24 rfl (vs := digC (shortD w (sha [2]))) rfl rfl (by first | decide | (simp [arr32_len, arr8_len, digC_len]; done) | (simp [arr32_len, arr8_len, digC_len]; omega)) rfl (c' := digC (shortD w (sha [2]))) rfl ?_; clear hL; intro w6 hL hE
  replace hL : Vg.Loc [] w0 w6 ([[(b3, ob (digC (shortD w (sha [2]))) 24)], [(b2, ob [(v8 2)] 5)], [(b1, ob (digC (shortD w (sha [2]))) 24)]]) := hL
  refine l_end ?_
  refine then_norm ?_
  refine wp_ret ?_
  refine c_ret (vs := [(Value.agg (digC (shortD w (sha [2]))).toArray)]) (rs := [.cell 2 24]) hT rfl (.agg rfl Tryz.ty24 (hL.rd 2 rfl 0 (ds := digC (shortD w (sha [2]))) rfl) rfl .nil) ?_
  exact ⟨rfl, hL.drop⟩

set_option maxRecDepth 20000 in
set_option maxHeartbeats 1000000 in
theorem refLeaf_spec (w : Int) (l : Leaf) (w0 : World) (hK2 : Key2At w0) :
    Calls Tryz.prog 95 #[(vI w), (Value.agg (digC l.p ++ (digC l.v)).toArray)] w0 fun e w' => e = .returned (dv (leafD w l)) ∧ Ext w0 w' := by
  refine c_enter (n := 15) (args := [(vI w), (Value.agg (digC l.p ++ (digC l.v)).toArray)]) Tryz.func95 rfl rfl (Nat.le_of_ble_eq_true rfl) rfl (fun a hT => ?_)
  simp only [List.zipIdx_cons, List.zipIdx_nil, List.map_cons, List.map_nil, Nat.reduceAdd] at hT
  have hL := Vg.Loc.refl [] w0
  refine c_seq ?_
  refine c_region ?_
  refine l_do rfl ?_
  refine w_box hT hL (by decide) rfl (c := digC l.p ++ (digC l.v)) rfl ?_; clear hT hL; intro b1 a w1 hT hL hE hB
  refine l_do rfl ?_
  refine w_alloc hT hL (by decide) Tryz.ty24 ?_; clear hT hL; intro b2 a w2 hT hL hE hB
  refine l_end ?_
  refine then_norm ?_
  refine c_seq ?_
  refine c_region ?_
  refine l_q hT (q_move hT rfl) rfl rfl (by decide) ?_; clear hT; intro a hT
  refine l_q hT (q_load_agg hT rfl Tryz.ty85 (hL.rd 1 rfl 0 (ds := digC l.p ++ (digC l.v)) rfl) rfl) rfl rfl (by decide) ?_; clear hT; intro a hT
  refine l_do rfl ?_
  refine w_callT (xs := [.tmp 9]) hT rfl (vs := [(Value.agg (digC l.p ++ (digC l.v)).toArray)]) rfl (args := #[(Value.agg (digC l.p ++ (digC l.v)).toArray)]) rfl Tryz.func137 rfl rfl (by decide) ((LeafBytes_spec l _).mono ?_)
  rintro e w3 ⟨pb1, cpb1, cb1, rfl, hX, hb1⟩
  refine ⟨_, rfl, ?_⟩; clear hT; intro a hT; replace hT : Tm 15 a ((10, (Value.slice pb1 65 cpb1)) :: _) := hT
  replace hL : Vg.Loc [] w0 w3 ([cb1, [(b2, ob (digC Dig.zero) 24)], [(b1, ob (digC l.p ++ (digC l.v)) 85)]]) := hL.exts hX
  refine l_do rfl ?_
  refine w_callT (xs := [.tmp 8, .tmp 10]) hT rfl (vs := [(vI w), (Value.slice pb1 65 cpb1)]) rfl (args := #[(vI w), (Value.slice pb1 65 cpb1)]) rfl Tryz.func136 rfl rfl (by decide) ((refShort_spec w (0 :: catD [l.p, l.v]) _ _ _ (by first | decide | omega) _ (hK2.of hL (by simp)) (OwnE.slb hb1 hL (i := 0) rfl)).mono ?_)
  rintro e w4 ⟨rfl, hX⟩
  refine ⟨_, rfl, ?_⟩; clear hT; intro a hT; replace hT : Tm 15 a ((11, (Value.tuple #[(Value.agg (digC (shortD w (sha (0 :: catD [l.p, l.v])))).toArray), (vI (if widthB w then 0 else 1))])) :: _) := hT
  replace hL := hL.ext hX
  refine l_q hT (q_move hT rfl) rfl rfl (by decide) ?_; clear hT; intro a hT
  refine l_q hT (q_extract hT rfl rfl) rfl rfl (by decide) ?_; clear hT; intro a hT
  refine l_q hT (q_extract hT rfl rfl) rfl rfl (by decide) ?_; clear hT; intro a hT
  refine l_do rfl ?_
  refine w_alloc hT hL (by decide) Tryz.ty24 ?_; clear hT hL; intro b3 a w5 hT hL hE hB
  refine l_do rfl ?_
  refine w_store hT hL 0 (c := digC Dig.zero) rfl rfl Tryz.ty24 rfl (vs := digC (shortD w (sha (0 :: catD [l.p, l.v])))) rfl rfl (by first | decide | (simp [arr32_len, arr8_len, digC_len]; done) | (simp [arr32_len, arr8_len, digC_len]; omega)) rfl (c' := digC (shortD w (sha (0 :: catD [l.p, l.v])))) rfl ?_; clear hL; intro w6 hL hE
  replace hL : Vg.Loc [] w0 w6 ([[(b3, ob (digC (shortD w (sha (0 :: catD [l.p, l.v])))) 24)], cb1, [(b2, ob (digC Dig.zero) 24)], [(b1, ob (digC l.p ++ (digC l.v)) 85)]]) := hL
  refine l_q hT (q_assign hT rfl) rfl rfl (by decide) ?_; clear hT; intro a hT
  refine l_end ?_
  refine then_norm ?_
  refine c_seq ?_
  refine c_region ?_
  refine l_q hT (q_load_agg hT rfl Tryz.ty24 (hL.rd 0 rfl 0 (ds := digC (shortD w (sha (0 :: catD [l.p, l.v])))) rfl) rfl) rfl rfl (by decide) ?_; clear hT; intro a hT
  refine l_do rfl ?_
  refine w_store hT hL 2 (c := digC Dig.zero) rfl rfl Tryz.ty24 rfl (vs := digC (shortD w (sha (0 :: catD [l.p, l.v])))) rfl rfl (by first | decide | (simp [arr32_len, arr8_len, digC_len]; done) | (simp [arr32_len, arr8_len, digC_len]; omega)) rfl (c' := digC (shortD w (sha (0 :: catD [l.p, l.v])))) rfl ?_; clear hL; intro w7 hL hE
  replace hL : Vg.Loc [] w0 w7 ([[(b3, ob (digC (shortD w (sha (0 :: catD [l.p, l.v])))) 24)], cb1, [(b2, ob (digC (shortD w (sha (0 :: catD [l.p, l.v])))) 24)], [(b1, ob (digC l.p ++ (digC l.v)) 85)]]) := hL
  refine l_end ?_
  refine then_norm ?_
  refine wp_ret ?_
  refine c_ret (vs := [(Value.agg (digC (shortD w (sha (0 :: catD [l.p, l.v])))).toArray)]) (rs := [.cell 4 24]) hT rfl (.agg rfl Tryz.ty24 (hL.rd 2 rfl 0 (ds := digC (shortD w (sha (0 :: catD [l.p, l.v])))) rfl) rfl .nil) ?_
  exact ⟨rfl, hL.drop⟩

set_option maxRecDepth 20000 in
set_option maxHeartbeats 1000000 in
theorem refNode_spec (w : Int) (x y : Dig) (w0 : World) (hK2 : Key2At w0) :
    Calls Tryz.prog 96 #[(vI w), (Value.agg (digC x).toArray), (Value.agg (digC y).toArray)] w0 fun e w' => e = .returned (dv (nodeD w x y)) ∧ Ext w0 w' := by
  refine c_enter (n := 18) (args := [(vI w), (Value.agg (digC x).toArray), (Value.agg (digC y).toArray)]) Tryz.func96 rfl rfl (Nat.le_of_ble_eq_true rfl) rfl (fun a hT => ?_)
  simp only [List.zipIdx_cons, List.zipIdx_nil, List.map_cons, List.map_nil, Nat.reduceAdd] at hT
  have hL := Vg.Loc.refl [] w0
  refine c_seq ?_
  refine c_region ?_
  refine l_do rfl ?_
  refine w_box hT hL (by decide) rfl (c := digC x) rfl ?_; clear hT hL; intro b1 a w1 hT hL hE hB
  refine l_do rfl ?_
  refine w_box hT hL (by decide) rfl (c := digC y) rfl ?_; clear hT hL; intro b2 a w2 hT hL hE hB
  refine l_do rfl ?_
  refine w_alloc hT hL (by decide) Tryz.ty24 ?_; clear hT hL; intro b3 a w3 hT hL hE hB
  refine l_end ?_
  refine then_norm ?_
  refine c_seq ?_
  refine c_region ?_
  refine l_q hT (q_move hT rfl) rfl rfl (by decide) ?_; clear hT; intro a hT
  refine l_q hT (q_load_agg hT rfl Tryz.ty24 (hL.rd 2 rfl 0 (ds := digC x) rfl) rfl) rfl rfl (by decide) ?_; clear hT; intro a hT
  refine l_q hT (q_load_agg hT rfl Tryz.ty24 (hL.rd 1 rfl 0 (ds := digC y) rfl) rfl) rfl rfl (by decide) ?_; clear hT; intro a hT
  refine l_do rfl ?_
  refine w_callT (xs := [.tmp 11, .tmp 12]) hT rfl (vs := [(Value.agg (digC x).toArray), (Value.agg (digC y).toArray)]) rfl (args := #[(Value.agg (digC x).toArray), (Value.agg (digC y).toArray)]) rfl Tryz.func138 rfl rfl (by decide) ((NodeBytes_spec (x) (y) _).mono ?_)
  rintro e w4 ⟨pb1, cpb1, cb1, rfl, hX, hb1⟩
  refine ⟨_, rfl, ?_⟩; clear hT; intro a hT; replace hT : Tm 18 a ((13, (Value.slice pb1 65 cpb1)) :: _) := hT
  replace hL : Vg.Loc [] w0 w4 ([cb1, [(b3, ob (digC Dig.zero) 24)], [(b2, ob (digC y) 24)], [(b1, ob (digC x) 24)]]) := hL.exts hX
  refine l_do rfl ?_
  refine w_callT (xs := [.tmp 10, .tmp 13]) hT rfl (vs := [(vI w), (Value.slice pb1 65 cpb1)]) rfl (args := #[(vI w), (Value.slice pb1 65 cpb1)]) rfl Tryz.func136 rfl rfl (by decide) ((refShort_spec w (1 :: catD [x, y]) _ _ _ (by first | decide | omega) _ (hK2.of hL (by simp)) (OwnE.slb hb1 hL (i := 0) rfl)).mono ?_)
  rintro e w5 ⟨rfl, hX⟩
  refine ⟨_, rfl, ?_⟩; clear hT; intro a hT; replace hT : Tm 18 a ((14, (Value.tuple #[(Value.agg (digC (shortD w (sha (1 :: catD [x, y])))).toArray), (vI (if widthB w then 0 else 1))])) :: _) := hT
  replace hL := hL.ext hX
  refine l_q hT (q_move hT rfl) rfl rfl (by decide) ?_; clear hT; intro a hT
  refine l_q hT (q_extract hT rfl rfl) rfl rfl (by decide) ?_; clear hT; intro a hT
  refine l_q hT (q_extract hT rfl rfl) rfl rfl (by decide) ?_; clear hT; intro a hT
  refine l_do rfl ?_
  refine w_alloc hT hL (by decide) Tryz.ty24 ?_; clear hT hL; intro b4 a w6 hT hL hE hB
  refine l_do rfl ?_
  refine w_store hT hL 0 (c := digC Dig.zero) rfl rfl Tryz.ty24 rfl (vs := digC (shortD w (sha (1 :: catD [x, y])))) rfl rfl (by first | decide | (simp [arr32_len, arr8_len, digC_len]; done) | (simp [arr32_len, arr8_len, digC_len]; omega)) rfl (c' := digC (shortD w (sha (1 :: catD [x, y])))) rfl ?_; clear hL; intro w7 hL hE
  replace hL : Vg.Loc [] w0 w7 ([[(b4, ob (digC (shortD w (sha (1 :: catD [x, y])))) 24)], cb1, [(b3, ob (digC Dig.zero) 24)], [(b2, ob (digC y) 24)], [(b1, ob (digC x) 24)]]) := hL
  refine l_q hT (q_assign hT rfl) rfl rfl (by decide) ?_; clear hT; intro a hT
  refine l_end ?_
  refine then_norm ?_
  refine c_seq ?_
  refine c_region ?_
  refine l_q hT (q_load_agg hT rfl Tryz.ty24 (hL.rd 0 rfl 0 (ds := digC (shortD w (sha (1 :: catD [x, y])))) rfl) rfl) rfl rfl (by decide) ?_; clear hT; intro a hT
  refine l_do rfl ?_
  refine w_store hT hL 2 (c := digC Dig.zero) rfl rfl Tryz.ty24 rfl (vs := digC (shortD w (sha (1 :: catD [x, y])))) rfl rfl (by first | decide | (simp [arr32_len, arr8_len, digC_len]; done) | (simp [arr32_len, arr8_len, digC_len]; omega)) rfl (c' := digC (shortD w (sha (1 :: catD [x, y])))) rfl ?_; clear hL; intro w8 hL hE
  replace hL : Vg.Loc [] w0 w8 ([[(b4, ob (digC (shortD w (sha (1 :: catD [x, y])))) 24)], cb1, [(b3, ob (digC (shortD w (sha (1 :: catD [x, y])))) 24)], [(b2, ob (digC y) 24)], [(b1, ob (digC x) 24)]]) := hL
  refine l_end ?_
  refine then_norm ?_
  refine wp_ret ?_
  refine c_ret (vs := [(Value.agg (digC (shortD w (sha (1 :: catD [x, y])))).toArray)]) (rs := [.cell 6 24]) hT rfl (.agg rfl Tryz.ty24 (hL.rd 2 rfl 0 (ds := digC (shortD w (sha (1 :: catD [x, y])))) rfl) rfl .nil) ?_
  exact ⟨rfl, hL.drop⟩
end Go.Proofs.YtcaffacganffjaaGreatDoor
end
