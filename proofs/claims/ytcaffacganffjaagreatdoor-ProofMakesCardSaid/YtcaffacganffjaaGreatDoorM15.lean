/- The walks of a part of the program: GSmt2. Printed by a program of the prover. The walks of a part of the program: GClone. Printed by a program of the prover. slices.SortFunc of leaves: the contract of the kit's shelf, laid over this program in plain words. Written by a program of the kit. -/
import Derived.Test.YtcaffacganffjaaGreatDoorM2
import Derived.Test.YtcaffacganffjaaGreatDoorM6
import Derived.Test.YtcaffacganffjaaGreatDoorM3
import Derived.Test.YtcaffacganffjaaGreatDoorM14
import Derived.Test.YtcaffacganffjaaGreatDoorM4
import Derived.Shelf.SlSortCmp.NoneTotal
import Derived.Ground.SlsfProg
import Derived.Test.YtcaffacganffjaaGreatDoorChecked

section
namespace Go.Proofs.YtcaffacganffjaaGreatDoor
open Go Go.Vg


set_option maxRecDepth 20000 in
set_option maxHeartbeats 1000000 in
theorem summed_spec (w : Int) (mark : UInt8) (ds : List Dig) (p : Option Addr) (len cap : Nat) (w0 : World) (hK : KeysAt w0) (hsl : SlT w0 p len 32 digC Dig.zero ds) (hbig : len < 100000000000000) :
    Calls Tryz.prog 92 #[(vI w), (v8 mark), (Value.slice p len cap)] w0 fun e w' => e = .returned (dv (shortD w (sha (mark :: catD ds)))) ∧ Ext w0 w' := by
  refine c_enter (n := 29) (args := [(vI w), (v8 mark), (Value.slice p len cap)]) Tryz.func92 rfl rfl (Nat.le_of_ble_eq_true rfl) rfl (fun a hT => ?_)
  simp only [List.zipIdx_cons, List.zipIdx_nil, List.map_cons, List.map_nil, Nat.reduceAdd] at hT
  have hL := Vg.Loc.refl [] w0
  have hlen : ds.length = len := hsl.1
  have hct : ∀ t, t ≤ len → (catD (ds.take t)).length = 32 * t := fun t ht => by rw [catD_len, List.length_take]; omega
  refine c_seq ?_
  refine c_region ?_
  refine l_do rfl ?_
  refine w_alloc hT hL (by decide) Tryz.ty24 ?_; clear hT hL; intro b1 a w1 hT hL hE hB
  refine l_end ?_
  refine then_norm ?_
  refine c_seq ?_
  refine c_region ?_
  refine l_do rfl ?_
  refine w_callT (xs := []) hT rfl (vs := []) rfl (args := #[]) rfl Tryz.func132 rfl rfl (by decide) ((New_spec _).mono ?_)
  rintro e w2 ⟨bh1, rfl, hX⟩
  refine ⟨_, rfl, ?_⟩; clear hT; intro a hT; replace hT : Tm 29 a ((10, (vp bh1 0)) :: _) := hT
  replace hL : Vg.Loc [] w0 w2 ([[(bh1, ob (arr32 8 ivF ++ (arr8 64 (fun _ => 0) ++ ([(vI 0)]))) 221)], [(b1, ob (digC Dig.zero) 24)]]) := hL.exts hX
  refine l_q hT (q_assign hT rfl) rfl rfl (by decide) ?_; clear hT; intro a hT
  refine l_end ?_
  refine then_norm ?_
  refine c_seq ?_
  refine c_region ?_
  refine l_q hT (q_move hT rfl) rfl rfl (by decide) ?_; clear hT; intro a hT
  refine l_q hT (q_move hT rfl) rfl rfl (by decide) ?_; clear hT; intro a hT
  refine l_do rfl ?_
  refine w_buildSlice (e := 5) (ps := [(0, .tmp 12)]) (pv := [(0, (v8 mark))]) (c := [(v8 mark)]) hT hL (by decide) rfl (fun _ => by kernel_rfl) ?_; clear hT hL; intro b2 a w3 hT hL hE hB
  refine l_do rfl ?_
  replace hL : Vg.Loc [] w0 w3 ([[(bh1, ob (arr32 8 ivF ++ (arr8 64 (fun _ => 0) ++ ([(vI 0)]))) 221)], [(b2, ob [(v8 mark)] 5)], [(b1, ob (digC Dig.zero) 24)]]) := hL.front 1 rfl rfl
  refine w_callT (xs := [.tmp 11, .tmp 13]) hT rfl (vs := [(vp bh1 0), (Value.slice (some ⟨b2, 0, none⟩) 1 1)]) rfl (args := #[(vp bh1 0), (Value.slice (some ⟨b2, 0, none⟩) 1 1)]) rfl Tryz.func133 rfl rfl (by decide) ((Write_spec bh1 ivF (fun _ => 0) ([]) [mark] (some ⟨b2, 0, none⟩) 1 1 _ (hK.of hL (by simp)) (by simp; have := hK.lt; have := hL.fresh 0 rfl; omega) (hL.get 0 rfl) HOk.new (SlB.of (hL.rd 1 rfl 0 (ds := byC [mark]) rfl)) (fun _ ad hp => by cases hp; have := hL.ne 0 1 (by decide) rfl rfl; simp; exact fun e => this e.symm) (by omega) (by simp only [List.length_cons, List.length_nil, List.length_append, List.nil_append]; first | omega | (have := hct t (by omega); omega))).mono ?_)
  rintro e w4 ⟨hw1, fw1, rfl, hX, hok1⟩
  refine ⟨_, rfl, ?_⟩; clear hT; intro a hT; replace hT : Tm 29 a ((14, (vI 0)) :: _) := hT
  replace hL : Vg.Loc [] w0 w4 ([[(bh1, ob (arr32 8 hw1 ++ (arr8 64 fw1 ++ ([(vI (([] ++ [mark]).length : Int))]))) 221)], [(b2, ob [(v8 mark)] 5)], [(b1, ob (digC Dig.zero) 24)]]) := Vg.Loc.call (ci := [[(bh1, ob (arr32 8 ivF ++ (arr8 64 (fun _ => 0) ++ ([(vI 0)]))) 221)]]) (cr := [[(b2, ob [(v8 mark)] 5)], [(b1, ob (digC Dig.zero) 24)]]) hL hX
  refine l_end ?_
  refine then_norm ?_
  refine c_seq ?_
  refine c_seq ?_
  refine c_region ?_
  refine l_q hT (q_move hT rfl) rfl rfl (by decide) ?_; clear hT; intro a hT
  refine l_q hT (q_len_slice hT rfl Tryz.underlying27) rfl rfl (by decide) ?_; clear hT; intro a hT
  refine l_q hT (q_move hT rfl) rfl rfl (by decide) ?_; clear hT; intro a hT
  refine l_end ?_
  refine then_norm ?_
  refine wp_block ?_
  refine c_loop (fun mz a wz => ∃ (t : Nat) (h : Nat → UInt32) (buf : Nat → UInt8), mz = len - t ∧ t ≤ len ∧ HOk h buf (mark :: catD (ds.take t)) ∧ Tm 29 a [(17, (vI (t : Int))), (15, (Value.slice p len cap)), (16, (vI (len : Int))), (0, (vI w)), (6, (vp b1 0)), (7, (vp bh1 0))] ∧ Vg.Loc [] w0 wz [[(bh1, ob (arr32 8 h ++ (arr8 64 buf ++ ([(vI ((mark :: catD (ds.take t)).length : Int))]))) 221)], [(b2, ob [(v8 mark)] 5)], [(b1, ob (digC Dig.zero) 24)]]) id len ?_ ?_
  · exact ⟨0, _, _, rfl, by omega, by simpa [catD] using hok1, hT.keep [17, 15, 16, 0, 6, 7] rfl, by simpa [catD] using hL⟩
  clear hT hL
  rintro mz a w5 ⟨t, h, buf, rfl, ht, hok, hT, hL⟩
  refine c_seq ?_
  refine c_region ?_
  refine l_q hT (q_lss hT rfl rfl) rfl rfl (by decide) ?_; clear hT; intro a hT
  refine l_end ?_
  refine then_norm ?_
  refine c_seq ?_
  refine c_if hT rfl (fun hc1 => ?_) (fun hc1 => ?_)
  · skip
    have hc1 := of_decide_eq_true hc1
    refine wp_skip ?_
    refine then_norm ?_
    refine c_seq ?_
    refine wp_block ?_
    refine c_seq ?_
    refine c_region ?_
    obtain ⟨sb1, so1, hp1, hrd1⟩ := (hsl).2 (by omega)
    refine l_q hT (q_indexAddr (b := sb1) (off := so1) (len := len) (cap := cap) hT (by rw [← hp1]; rfl) rfl Tryz.sli27 (by omega) (by omega)) rfl rfl (by decide) ?_; clear hT; intro a hT
    refine l_q hT (q_load_agg hT rfl Tryz.ty24 (Rd.loc (hrd1 t (by omega)) hL (by simp)) rfl) rfl rfl (by decide) ?_; clear hT; intro a hT
    refine l_do rfl ?_
    refine w_alloc hT hL (by decide) Tryz.ty24 ?_; clear hT hL; intro b3 a w6 hT hL hE hB
    refine l_do rfl ?_
    refine w_store hT hL 0 (c := digC Dig.zero) rfl rfl Tryz.ty24 rfl (vs := digC (ds.getD t Dig.zero)) rfl rfl (by first | decide | (simp [arr32_len, arr8_len, digC_len]; done) | (simp [arr32_len, arr8_len, digC_len]; omega)) rfl (c' := digC (ds.getD t Dig.zero)) rfl ?_; clear hL; intro w7 hL hE
    replace hL : Vg.Loc [] w0 w7 ([[(b3, ob (digC (ds.getD t Dig.zero)) 24)], [(bh1, ob (arr32 8 h ++ (arr8 64 buf ++ ([(vI ((mark :: catD (ds.take t)).length : Int))]))) 221)], [(b2, ob [(v8 mark)] 5)], [(b1, ob (digC Dig.zero) 24)]]) := hL
    refine l_end ?_
    refine then_norm ?_
    refine c_region ?_
    refine l_q hT (q_move hT rfl) rfl rfl (by decide) ?_; clear hT; intro a hT
    refine l_q hT (q_slice_arr hT rfl Tryz.arr24 (by omega)) rfl rfl (by decide) ?_; clear hT; intro a hT
    refine l_do rfl ?_
    replace hL : Vg.Loc [] w0 w7 ([[(bh1, ob (arr32 8 h ++ (arr8 64 buf ++ ([(vI ((mark :: catD (ds.take t)).length : Int))]))) 221)], [(b3, ob (digC (ds.getD t Dig.zero)) 24)], [(b2, ob [(v8 mark)] 5)], [(b1, ob (digC Dig.zero) 24)]]) := hL.front 1 rfl rfl
    refine w_callT (xs := [.tmp 21, .tmp 22]) hT rfl (vs := [(vp bh1 0), (Value.slice (some ⟨b3, 0, none⟩) 32 32)]) rfl (args := #[(vp bh1 0), (Value.slice (some ⟨b3, 0, none⟩) 32 32)]) rfl Tryz.func133 rfl rfl (by decide) ((Write_spec bh1 h buf (mark :: catD (ds.take t)) ((ds.getD t Dig.zero).l) (some ⟨b3, 0, none⟩) 32 32 _ (hK.of hL (by simp)) (by simp; have := hK.lt; have := hL.fresh 0 rfl; omega) (hL.get 0 rfl) hok (SlB.dig (hL.rd 1 rfl 0 (ds := digC (ds.getD t Dig.zero)) rfl)) (fun _ ad hp => by cases hp; have := hL.ne 0 1 (by decide) rfl rfl; simp; exact fun e => this e.symm) (by omega) (by simp only [List.length_cons, List.length_nil, List.length_append, List.nil_append]; first | omega | (have := hct t (by omega); omega))).mono ?_)
    rintro e w8 ⟨hw2, fw2, rfl, hX, hok2⟩
    refine ⟨_, rfl, ?_⟩; clear hT; intro a hT; replace hT : Tm 29 a ((23, (vI 0)) :: _) := hT
    replace hL : Vg.Loc [] w0 w8 ([[(bh1, ob (arr32 8 hw2 ++ (arr8 64 fw2 ++ ([(vI ((mark :: catD (ds.take t) ++ ((ds.getD t Dig.zero).l)).length : Int))]))) 221)], [(b3, ob (digC (ds.getD t Dig.zero)) 24)], [(b2, ob [(v8 mark)] 5)], [(b1, ob (digC Dig.zero) 24)]]) := Vg.Loc.call (ci := [[(bh1, ob (arr32 8 h ++ (arr8 64 buf ++ ([(vI ((mark :: catD (ds.take t)).length : Int))]))) 221)]]) (cr := [[(b3, ob (digC (ds.getD t Dig.zero)) 24)], [(b2, ob [(v8 mark)] 5)], [(b1, ob (digC Dig.zero) 24)]]) hL hX
    refine l_end ?_
    refine blk_norm ?_
    refine then_norm ?_
    refine c_region ?_
    refine l_q hT (q_addI hT rfl rfl (r := (t : Int) + 1) rfl (by omega) (by omega)) rfl rfl (by decide) ?_; clear hT; intro a hT
    refine l_q hT (q_move hT rfl) rfl rfl (by decide) ?_; clear hT; intro a hT
    refine l_end ?_
    refine then_norm ?_
    have hm : (mark :: catD (ds.take t) ++ ((ds.getD t Dig.zero).l)) = mark :: catD (ds.take (t + 1)) := by rw [List.cons_append, catD_take_succ ds t (by omega)]
    rw [hm] at hL hok2
    replace hL := hL.sub (.cons_cons _ (.cons _ (.cons_cons _ (.cons_cons _ .slnil))))
    exact ⟨_, ⟨t + 1, _, _, rfl, by omega, hok2, hT.keep [17, 15, 16, 0, 6, 7] rfl, hL⟩, by simp only [id]; omega⟩
  · skip
    have hc1 := of_decide_eq_false hc1
    obtain rfl : t = len := by omega
    refine wp_exit ?_
    refine then_exit ?_
    refine then_exit ?_
    refine blk_exit ?_
    refine then_norm ?_
    refine c_seq ?_
    refine c_region ?_
    refine l_q hT (q_move hT rfl) rfl rfl (by decide) ?_; clear hT; intro a hT
    refine l_q hT (q_move hT rfl) rfl rfl (by decide) ?_; clear hT; intro a hT
    refine l_do rfl ?_
    refine w_callT (xs := [.tmp 26]) hT rfl (vs := [(vp bh1 0)]) rfl (args := #[(vp bh1 0)]) rfl Tryz.func135 rfl rfl (by decide) ((Sum_spec bh1 h buf (mark :: catD (ds.take t)) _ (hK.of hL (by simp)) (hL.get 0 rfl) hok (by simp only [List.length_cons, List.length_nil, List.length_append, List.nil_append]; first | omega | (have := hct t (by omega); omega))).mono ?_)
    rintro e w9 ⟨rfl, hX⟩
    refine ⟨_, rfl, ?_⟩; clear hT; intro a hT; replace hT : Tm 29 a ((27, (Value.agg (digC (sha (mark :: catD (ds.take t)))).toArray)) :: _) := hT
    replace hL := hL.ext hX
    refine l_do rfl ?_
    refine w_callT (xs := [.tmp 25, .tmp 27]) hT rfl (vs := [(vI w), (Value.agg (digC (sha (mark :: catD (ds.take t)))).toArray)]) rfl (args := #[(vI w), (Value.agg (digC (sha (mark :: catD (ds.take t)))).toArray)]) rfl Tryz.func134 rfl rfl (by decide) ((short_spec (w) (sha (mark :: catD (ds.take t))) _).mono ?_)
    rintro e w10 ⟨rfl, hX⟩
    refine ⟨_, rfl, ?_⟩; clear hT; intro a hT; replace hT : Tm 29 a ((28, (Value.agg (digC (shortD (w) (sha (mark :: catD (ds.take t))))).toArray)) :: _) := hT
    replace hL := hL.ext hX
    refine l_do rfl ?_
    refine w_store hT hL 2 (c := digC Dig.zero) rfl rfl Tryz.ty24 rfl (vs := digC (shortD (w) (sha (mark :: catD (ds.take t))))) rfl rfl (by first | decide | (simp [arr32_len, arr8_len, digC_len]; done) | (simp [arr32_len, arr8_len, digC_len]; omega)) rfl (c' := digC (shortD (w) (sha (mark :: catD (ds.take t))))) rfl ?_; clear hL; intro w11 hL hE
    replace hL : Vg.Loc [] w0 w11 ([[(bh1, ob (arr32 8 h ++ (arr8 64 buf ++ ([(vI ((mark :: catD (ds.take t)).length : Int))]))) 221)], [(b2, ob [(v8 mark)] 5)], [(b1, ob (digC (shortD (w) (sha (mark :: catD (ds.take t))))) 24)]]) := hL
    refine l_end ?_
    refine then_norm ?_
    refine wp_ret ?_
    refine c_ret (vs := [(Value.agg (digC (shortD (w) (sha (mark :: catD (ds.take t))))).toArray)]) (rs := [.cell 6 24]) hT rfl (.agg rfl Tryz.ty24 (hL.rd 2 rfl 0 (ds := digC (shortD (w) (sha (mark :: catD (ds.take t))))) rfl) rfl .nil) ?_
    refine ⟨?_, hL.drop⟩; simp only [packed]; rw [List.take_of_length_le (by omega)]

set_option maxRecDepth 20000 in
set_option maxHeartbeats 1000000 in
theorem Empty_spec (w : Int) (w0 : World) (hK : KeysAt w0) :
    Calls Tryz.prog 88 #[(vI w)] w0 fun e w' => e = .returned (dv (emptyD w)) ∧ Ext w0 w' := by
  refine c_enter (n := 5) (args := [(vI w)]) Tryz.func88 rfl rfl (Nat.le_of_ble_eq_true rfl) rfl (fun a hT => ?_)
  simp only [List.zipIdx_cons, List.zipIdx_nil, List.map_cons, List.map_nil, Nat.reduceAdd] at hT
  have hL := Vg.Loc.refl [] w0
  refine c_seq ?_
  refine c_region ?_
  refine l_do rfl ?_
  refine w_alloc hT hL (by decide) Tryz.ty24 ?_; clear hT hL; intro b1 a w1 hT hL hE hB
  refine l_end ?_
  refine then_norm ?_
  refine c_seq ?_
  refine c_region ?_
  refine l_q hT (q_move hT rfl) rfl rfl (by decide) ?_; clear hT; intro a hT
  refine l_do rfl ?_
  refine w_callT (xs := [.tmp 3, .const (.int .u8 2), .const (.slice none 0 0)]) hT rfl (vs := [(vI w), (v8 2), (Value.slice none 0 0)]) rfl (args := #[(vI w), (v8 2), (Value.slice none 0 0)]) rfl Tryz.func92 rfl rfl (by decide) ((summed_spec (w) (2) [] none 0 0 _ (hK.of hL (by simp)) SlT.nil (by decide)).mono ?_)
  rintro e w2 ⟨rfl, hX⟩
  refine ⟨_, rfl, ?_⟩; clear hT; intro a hT; replace hT : Tm 5 a ((4, (Value.agg (digC (shortD (w) (sha (2 :: catD [])))).toArray)) :: _) := hT
  replace hL := hL.ext hX
  refine l_do rfl ?_
  refine w_store hT hL 0 (c := digC Dig.zero) rfl rfl Tryz.ty24 rfl (vs := digC (shortD (w) (sha (2 :: catD [])))) rfl rfl (by first | decide | (simp [arr32_len, arr8_len, digC_len]; done) | (simp [arr32_len, arr8_len, digC_len]; omega)) rfl (c' := digC (shortD (w) (sha (2 :: catD [])))) rfl ?_; clear hL; intro w3 hL hE
  replace hL : Vg.Loc [] w0 w3 ([[(b1, ob (digC (shortD (w) (sha (2 :: catD [])))) 24)]]) := hL
  refine l_end ?_
  refine then_norm ?_
  refine wp_ret ?_
  refine c_ret (vs := [(Value.agg (digC (shortD (w) (sha (2 :: catD [])))).toArray)]) (rs := [.cell 2 24]) hT rfl (.agg rfl Tryz.ty24 (hL.rd 0 rfl 0 (ds := digC (shortD (w) (sha (2 :: catD [])))) rfl) rfl .nil) ?_
  exact ⟨rfl, hL.drop⟩

set_option maxRecDepth 20000 in
set_option maxHeartbeats 1000000 in
theorem Leaf_spec (w : Int) (l : Leaf) (w0 : World) (hK : KeysAt w0) :
    Calls Tryz.prog 43 #[(vI w), (Value.agg (digC l.p ++ (digC l.v)).toArray)] w0 fun e w' => e = .returned (dv (leafD w l)) ∧ Ext w0 w' := by
  refine c_enter (n := 12) (args := [(vI w), (Value.agg (digC l.p ++ (digC l.v)).toArray)]) Tryz.func43 rfl rfl (Nat.le_of_ble_eq_true rfl) rfl (fun a hT => ?_)
  simp only [List.zipIdx_cons, List.zipIdx_nil, List.map_cons, List.map_nil, Nat.reduceAdd] at hT
  have hL := Vg.Loc.refl [] w0
  refine c_seq ?_
  refine c_region ?_
  refine l_do rfl ?_
  refine w_box hT hL (by decide) rfl (c := digC l.p ++ (digC l.v)) rfl ?_; clear hT hL; intro b1 a w1 hT hL hE hB
  refine l_do rfl ?_
  refine w_alloc hT hL (by decide) Tryz.ty24 ?_; clear hT hL; intro b2 a w2 hT hL hE hB
  refine l_end ?_
  refine then_norm ?_
  refine c_seq ?_
  refine c_region ?_
  refine l_q hT (q_move hT rfl) rfl rfl (by decide) ?_; clear hT; intro a hT
  refine l_q hT (q_fieldAddr hT rfl Tryz.fld85_0 rfl) rfl rfl (by decide) ?_; clear hT; intro a hT
  refine l_q hT (q_load_agg hT rfl Tryz.ty24 (hL.rd 1 rfl 0 (ds := digC l.p) rfl) rfl) rfl rfl (by decide) ?_; clear hT; intro a hT
  refine l_q hT (q_fieldAddr hT rfl Tryz.fld85_1 rfl) rfl rfl (by decide) ?_; clear hT; intro a hT
  refine l_q hT (q_load_agg hT rfl Tryz.ty24 (hL.rd 1 rfl 32 (ds := digC l.v) rfl) rfl) rfl rfl (by decide) ?_; clear hT; intro a hT
  refine l_do rfl ?_
  refine w_buildSlice (e := 24) (ps := [(0, .tmp 7), (1, .tmp 9)]) (pv := [(0, (Value.agg (digC l.p).toArray)), (1, (Value.agg (digC l.v).toArray))]) (c := digC l.p ++ (digC l.v)) hT hL (by decide) rfl (fun _ => by kernel_rfl) ?_; clear hT hL; intro b3 a w3 hT hL hE hB
  refine l_do rfl ?_
  refine w_callT (xs := [.tmp 5, .const (.int .u8 0), .tmp 10]) hT rfl (vs := [(vI w), (v8 0), (Value.slice (some ⟨b3, 0, none⟩) 2 2)]) rfl (args := #[(vI w), (v8 0), (Value.slice (some ⟨b3, 0, none⟩) 2 2)]) rfl Tryz.func92 rfl rfl (by decide) ((summed_spec (w) (0) [l.p, l.v] (some ⟨b3, 0, none⟩) 2 2 _ (hK.of hL (by simp)) (SlT.flat (d0 := Dig.zero) digC_len (hL.rd 0 rfl 0 (ds := ([l.p, l.v] : List Dig).flatMap digC) rfl)) (by decide)).mono ?_)
  rintro e w4 ⟨rfl, hX⟩
  refine ⟨_, rfl, ?_⟩; clear hT; intro a hT; replace hT : Tm 12 a ((11, (Value.agg (digC (shortD (w) (sha (0 :: catD [l.p, l.v])))).toArray)) :: _) := hT
  replace hL := hL.ext hX
  refine l_do rfl ?_
  refine w_store hT hL 1 (c := digC Dig.zero) rfl rfl Tryz.ty24 rfl (vs := digC (shortD (w) (sha (0 :: catD [l.p, l.v])))) rfl rfl (by first | decide | (simp [arr32_len, arr8_len, digC_len]; done) | (simp [arr32_len, arr8_len, digC_len]; omega)) rfl (c' := digC (shortD (w) (sha (0 :: catD [l.p, l.v])))) rfl ?_; clear hL; intro w5 hL hE
  replace hL : Vg.Loc [] w0 w5 ([[(b3, ob (digC l.p ++ (digC l.v)) 24)], [(b2, ob (digC (shortD (w) (sha (0 :: catD [l.p, l.v])))) 24)], [(b1, ob (digC l.p ++ (digC l.v)) 85)]]) := hL
  refine l_end ?_
  refine then_norm ?_
  refine wp_ret ?_
  refine c_ret (vs := [(Value.agg (digC (shortD (w) (sha (0 :: catD [l.p, l.v])))).toArray)]) (rs := [.cell 4 24]) hT rfl (.agg rfl Tryz.ty24 (hL.rd 1 rfl 0 (ds := digC (shortD (w) (sha (0 :: catD [l.p, l.v])))) rfl) rfl .nil) ?_
  exact ⟨rfl, hL.drop⟩

set_option maxRecDepth 20000 in
set_option maxHeartbeats 1000000 in
theorem Node_spec (w : Int) (x y : Dig) (w0 : World) (hK : KeysAt w0) :
    Calls Tryz.prog 91 #[(vI w), (Value.agg (digC x).toArray), (Value.agg (digC y).toArray)] w0 fun e w' => e = .returned (dv (nodeD w x y)) ∧ Ext w0 w' := by
  refine c_enter (n := 12) (args := [(vI w), (Value.agg (digC x).toArray), (Value.agg (digC y).toArray)]) Tryz.func91 rfl rfl (Nat.le_of_ble_eq_true rfl) rfl (fun a hT => ?_)
  simp only [List.zipIdx_cons, List.zipIdx_nil, List.map_cons, List.map_nil, Nat.reduceAdd] at hT
  have hL := Vg.Loc.refl [] w0
  refine c_seq ?_
  refine c_region ?_
  refine l_do rfl ?_
  refine w_box hT hL (by decide) rfl (c := digC x) rfl ?_; clear hT hL; intro b1 a w1 hT hL hE hB
  refine l_do rfl ?_
  refine w_box hT hL (by decide) rfl (c := digC y) rfl ?_; clear hT hL; intro b2 a w2 hT hL hE hB
  refine l_do rfl ?_
  refine w_alloc hT hL (by decide) Tryz.ty24 ?_; clear hT hL; intro b3 a w3 hT hL hE hB
  refine l_end ?_
  refine then_norm ?_
  refine c_seq ?_
  refine c_region ?_
  refine l_q hT (q_move hT rfl) rfl rfl (by decide) ?_; clear hT; intro a hT
  refine l_q hT (q_load_agg hT rfl Tryz.ty24 (hL.rd 2 rfl 0 (ds := digC x) rfl) rfl) rfl rfl (by decide) ?_; clear hT; intro a hT
  refine l_q hT (q_load_agg hT rfl Tryz.ty24 (hL.rd 1 rfl 0 (ds := digC y) rfl) rfl) rfl rfl (by decide) ?_; clear hT; intro a hT
  refine l_do rfl ?_
  refine w_buildSlice (e := 24) (ps := [(0, .tmp 8), (1, .tmp 9)]) (pv := [(0, (Value.agg (digC x).toArray)), (1, (Value.agg (digC y).toArray))]) (c := digC x ++ (digC y)) hT hL (by decide) rfl (fun _ => by kernel_rfl) ?_; clear hT hL; intro b4 a w4 hT hL hE hB
  refine l_do rfl ?_
  refine w_callT (xs := [.tmp 7, .const (.int .u8 1), .tmp 10]) hT rfl (vs := [(vI w), (v8 1), (Value.slice (some ⟨b4, 0, none⟩) 2 2)]) rfl (args := #[(vI w), (v8 1), (Value.slice (some ⟨b4, 0, none⟩) 2 2)]) rfl Tryz.func92 rfl rfl (by decide) ((summed_spec (w) (1) [x, y] (some ⟨b4, 0, none⟩) 2 2 _ (hK.of hL (by simp)) (SlT.flat (d0 := Dig.zero) digC_len (hL.rd 0 rfl 0 (ds := ([x, y] : List Dig).flatMap digC) rfl)) (by decide)).mono ?_)
  rintro e w5 ⟨rfl, hX⟩
  refine ⟨_, rfl, ?_⟩; clear hT; intro a hT; replace hT : Tm 12 a ((11, (Value.agg (digC (shortD (w) (sha (1 :: catD [x, y])))).toArray)) :: _) := hT
  replace hL := hL.ext hX
  refine l_do rfl ?_
  refine w_store hT hL 1 (c := digC Dig.zero) rfl rfl Tryz.ty24 rfl (vs := digC (shortD (w) (sha (1 :: catD [x, y])))) rfl rfl (by first | decide | (simp [arr32_len, arr8_len, digC_len]; done) | (simp [arr32_len, arr8_len, digC_len]; omega)) rfl (c' := digC (shortD (w) (sha (1 :: catD [x, y])))) rfl ?_; clear hL; intro w6 hL hE
  replace hL : Vg.Loc [] w0 w6 ([[(b4, ob (digC x ++ (digC y)) 24)], [(b3, ob (digC (shortD (w) (sha (1 :: catD [x, y])))) 24)], [(b2, ob (digC y) 24)], [(b1, ob (digC x) 24)]]) := hL
  refine l_end ?_
  refine then_norm ?_
  refine wp_ret ?_
  refine c_ret (vs := [(Value.agg (digC (shortD (w) (sha (1 :: catD [x, y])))).toArray)]) (rs := [.cell 6 24]) hT rfl (.agg rfl Tryz.ty24 (hL.rd 1 rfl 0 (ds := digC (shortD (w) (sha (1 :: catD [x, y])))) rfl) rfl .nil) ?_
  exact ⟨rfl, hL.drop⟩
end Go.Proofs.YtcaffacganffjaaGreatDoor
end

section
namespace Go.Proofs.YtcaffacganffjaaGreatDoor
open Go Go.Vg


set_option maxRecDepth 20000 in
set_option maxHeartbeats 1000000 in
theorem Clone_some (ls : List Leaf) (ad : Addr) (len cap : Nat) (h0 : 0 < len) (hc : len ≤ 4096) (w0 : World) (hsl : SlT w0 (some ad) len 64 leafC noLeaf ls) :
    Calls Tryz.prog 38 #[(Value.slice (some ad) len cap)] w0 fun e w' => ∃ g cap' junk, e = .returned (.slice (some ⟨g, 0, none⟩) len cap') ∧ Vg.Loc [] w0 w' [[(g, ob (ls.flatMap leafC ++ junk) 85)]] ∧ len ≤ cap' := by
  refine c_enter (n := 8) (args := [(Value.slice (some ad) len cap)]) Tryz.func38 rfl rfl (Nat.le_of_ble_eq_true rfl) rfl (fun a hT => ?_)
  simp only [List.zipIdx_cons, List.zipIdx_nil, List.map_cons, List.map_nil, Nat.reduceAdd] at hT
  have hL := Vg.Loc.refl [] w0
  have hlen : ls.length = len := hsl.1
  refine c_seq ?_
  refine c_region ?_
  refine l_q hT (q_assign hT rfl) rfl rfl (by decide) ?_; clear hT; intro a hT
  refine l_end ?_
  refine then_norm ?_
  refine c_seq ?_
  refine c_seq ?_
  refine c_region ?_
  refine l_q hT (q_move hT rfl) rfl rfl (by decide) ?_; clear hT; intro a hT
  refine l_q hT ((q_eq_slnil hT rfl rfl Tryz.underlying22).b (b := false) rfl) rfl rfl (by decide) ?_; clear hT; intro a hT
  refine l_end ?_
  refine then_norm ?_
  refine c_false hT rfl rfl ?_
  refine wp_skip ?_
  refine then_norm ?_
  refine c_seq ?_
  refine c_region ?_
  refine l_do rfl ?_
  refine w_buildSlice (e := 85) (ps := []) (pv := []) (c := []) hT hL (by decide) rfl (fun _ => by kernel_rfl) ?_; clear hT hL; intro b1 a w1 hT hL hE hB
  refine l_q hT (q_move hT rfl) rfl rfl (by decide) ?_; clear hT; intro a hT
  refine l_do rfl ?_
  refine w_append hT hL (by decide) 0 rfl rfl rfl Tryz.app22 (by decide) rfl OwnC.empty (SlT.src leafC_len leafC_one (hsl.ext hL)) (by omega) (by simp only [maxLen]; omega) ?_; clear hT hL; intro p' cap' c' a w2 hown hT hL
  replace hL : Vg.Loc [] w0 w2 ([c']) := hL
  refine l_q hT (q_assign hT rfl) rfl rfl (by decide) ?_; clear hT; intro a hT
  refine l_end ?_
  refine then_norm ?_
  refine wp_ret ?_
  refine c_ret (vs := [(Value.slice p' (0 + len) cap')]) (rs := [.tmp 2]) hT rfl (.tmp rfl .nil) ?_
  obtain ⟨_, hlc, _, hcase⟩ := hown
  rcases hcase with ⟨rfl, rfl, _⟩ | ⟨gb, junk, rfl, rfl, _⟩
  · omega
  · exact ⟨gb, cap', junk, by simp [packed], by simpa using hL, by omega⟩

set_option maxRecDepth 20000 in
set_option maxHeartbeats 1000000 in
theorem Clone_none (p : Option Addr) (cap : Nat) (w0 : World) :
    Calls Tryz.prog 38 #[(Value.slice p 0 cap)] w0 fun e w' => ∃ p' cap', e = .returned (.slice p' 0 cap') ∧ Ext w0 w' := by
  refine c_enter (n := 8) (args := [(Value.slice p 0 cap)]) Tryz.func38 rfl rfl (Nat.le_of_ble_eq_true rfl) rfl (fun a hT => ?_)
  simp only [List.zipIdx_cons, List.zipIdx_nil, List.map_cons, List.map_nil, Nat.reduceAdd] at hT
  have hL := Vg.Loc.refl [] w0
  refine c_seq ?_
  refine c_region ?_
  refine l_q hT (q_assign hT rfl) rfl rfl (by decide) ?_; clear hT; intro a hT
  refine l_end ?_
  refine then_norm ?_
  refine c_seq ?_
  refine c_seq ?_
  refine c_region ?_
  refine l_q hT (q_move hT rfl) rfl rfl (by decide) ?_; clear hT; intro a hT
  refine l_q hT (q_eq_slnil hT rfl rfl Tryz.underlying22) rfl rfl (by decide) ?_; clear hT; intro a hT
  refine l_end ?_
  refine then_norm ?_
  refine c_if hT rfl (fun hc1 => ?_) (fun hc1 => ?_)
  · skip
    refine c_seq ?_
    refine c_region ?_
    refine l_q hT (q_assign hT rfl) rfl rfl (by decide) ?_; clear hT; intro a hT
    refine l_end ?_
    refine then_norm ?_
    refine wp_ret ?_
    refine then_ret ?_
    refine c_ret (vs := [(Value.slice none 0 0)]) (rs := [.tmp 2]) hT rfl (.tmp rfl .nil) ?_
    exact ⟨_, _, rfl, hL.drop⟩
  · skip
    refine wp_skip ?_
    refine then_norm ?_
    refine c_seq ?_
    refine c_region ?_
    refine l_do rfl ?_
    refine w_buildSlice (e := 85) (ps := []) (pv := []) (c := []) hT hL (by decide) rfl (fun _ => by kernel_rfl) ?_; clear hT hL; intro b1 a w1 hT hL hE hB
    refine l_q hT (q_move hT rfl) rfl rfl (by decide) ?_; clear hT; intro a hT
    refine l_do rfl ?_
    refine w_append hT hL (by decide) 0 rfl rfl rfl Tryz.app22 (by decide) rfl OwnC.empty ⟨rfl, rfl, fun h => by omega⟩ (news := []) (by omega) (by simp only [maxLen]; omega) ?_; clear hT hL; intro p' cap' c' a w2 hown hT hL
    replace hL : Vg.Loc [] w0 w2 ([c']) := hL
    refine l_q hT (q_assign hT rfl) rfl rfl (by decide) ?_; clear hT; intro a hT
    refine l_end ?_
    refine then_norm ?_
    refine wp_ret ?_
    refine c_ret (vs := [(Value.slice p' (0 + 0) cap')]) (rs := [.tmp 2]) hT rfl (.tmp rfl .nil) ?_
    exact ⟨_, _, rfl, hL.drop⟩

set_option maxRecDepth 20000 in
set_option maxHeartbeats 1000000 in
theorem isNaN_spec (x : UInt8) (w0 : World) :
    Calls Tryz.prog 205 #[(v8 x)] w0 fun e w' => e = .returned (.bool false) ∧ Ext w0 w' := by
  refine c_enter (n := 6) (args := [(v8 x)]) Tryz.func205 rfl rfl (Nat.le_of_ble_eq_true rfl) rfl (fun a hT => ?_)
  simp only [List.zipIdx_cons, List.zipIdx_nil, List.map_cons, List.map_nil, Nat.reduceAdd] at hT
  have hL := Vg.Loc.refl [] w0
  refine c_seq ?_
  refine c_region ?_
  refine l_q hT (q_assign hT rfl) rfl rfl (by decide) ?_; clear hT; intro a hT
  refine l_end ?_
  refine then_norm ?_
  refine c_seq ?_
  refine c_region ?_
  refine l_q hT (q_move hT rfl) rfl rfl (by decide) ?_; clear hT; intro a hT
  refine l_q hT (q_move hT rfl) rfl rfl (by decide) ?_; clear hT; intro a hT
  refine l_q hT (q_ne8 (u := x) (v := x) hT rfl rfl) rfl rfl (by decide) ?_; clear hT; intro a hT
  refine l_q hT (q_assign hT rfl) rfl rfl (by decide) ?_; clear hT; intro a hT
  refine l_end ?_
  refine then_norm ?_
  refine wp_ret ?_
  refine c_ret (vs := [(Value.bool (decide (x ≠ x)))]) (rs := [.tmp 2]) hT rfl (.tmp rfl .nil) ?_
  exact ⟨by simp [packed], hL.drop⟩

set_option maxRecDepth 20000 in
set_option maxHeartbeats 1000000 in
theorem cmpB_spec (x y : UInt8) (w0 : World) :
    Calls Tryz.prog 186 #[(v8 x), (v8 y)] w0 fun e w' => e = .returned (vI (cmpB x y)) ∧ Ext w0 w' := by
  refine c_enter (n := 20) (args := [(v8 x), (v8 y)]) Tryz.func186 rfl rfl (Nat.le_of_ble_eq_true rfl) rfl (fun a hT => ?_)
  simp only [List.zipIdx_cons, List.zipIdx_nil, List.map_cons, List.map_nil, Nat.reduceAdd] at hT
  have hL := Vg.Loc.refl [] w0
  refine c_seq ?_
  refine c_region ?_
  refine l_q hT (q_assign hT rfl) rfl rfl (by decide) ?_; clear hT; intro a hT
  refine l_end ?_
  refine then_norm ?_
  refine c_seq ?_
  refine c_region ?_
  refine l_q hT (q_move hT rfl) rfl rfl (by decide) ?_; clear hT; intro a hT
  refine l_do rfl ?_
  refine w_callT (xs := [.tmp 7]) hT rfl (vs := [(v8 x)]) rfl (args := #[(v8 x)]) rfl Tryz.func205 rfl rfl (by decide) ((isNaN_spec x _).mono ?_)
  rintro e w1 ⟨rfl, hX⟩
  refine ⟨_, rfl, ?_⟩; clear hT; intro a hT; replace hT : Tm 20 a ((8, (Value.bool false)) :: _) := hT
  replace hL := hL.ext hX
  refine l_q hT (q_assign hT rfl) rfl rfl (by decide) ?_; clear hT; intro a hT
  refine l_end ?_
  refine then_norm ?_
  refine c_seq ?_
  refine c_region ?_
  refine l_q hT (q_move hT rfl) rfl rfl (by decide) ?_; clear hT; intro a hT
  refine l_do rfl ?_
  refine w_callT (xs := [.tmp 9]) hT rfl (vs := [(v8 y)]) rfl (args := #[(v8 y)]) rfl Tryz.func205 rfl rfl (by decide) ((isNaN_spec y _).mono ?_)
  rintro e w2 ⟨rfl, hX⟩
  refine ⟨_, rfl, ?_⟩; clear hT; intro a hT; replace hT : Tm 20 a ((10, (Value.bool false)) :: _) := hT
  replace hL := hL.ext hX
  refine l_q hT (q_assign hT rfl) rfl rfl (by decide) ?_; clear hT; intro a hT
  refine l_end ?_
  refine then_norm ?_
  refine c_seq ?_
  refine c_seq ?_
  refine c_region ?_
  refine l_q hT (q_move hT rfl) rfl rfl (by decide) ?_; clear hT; intro a hT
  refine l_end ?_
  refine then_norm ?_
  refine c_false hT rfl rfl ?_
  refine wp_skip ?_
  refine then_norm ?_
  refine c_seq ?_
  refine c_seq ?_
  refine c_region ?_
  refine l_q hT (q_move hT rfl) rfl rfl (by decide) ?_; clear hT; intro a hT
  refine l_end ?_
  refine then_norm ?_
  refine c_false hT rfl rfl ?_
  refine wp_skip ?_
  refine then_norm ?_
  refine c_seq ?_
  refine c_seq ?_
  refine c_region ?_
  refine l_q hT (q_move hT rfl) rfl rfl (by decide) ?_; clear hT; intro a hT
  refine l_q hT (q_move hT rfl) rfl rfl (by decide) ?_; clear hT; intro a hT
  refine l_q hT (q_ls8 (u := x) (v := y) hT rfl rfl) rfl rfl (by decide) ?_; clear hT; intro a hT
  refine l_end ?_
  refine then_norm ?_
  refine c_if hT rfl (fun hc1 => ?_) (fun hc1 => ?_)
  · skip
    have hc1 := of_decide_eq_true hc1
    refine c_seq ?_
    refine c_region ?_
    refine l_q hT (q_assign hT rfl) rfl rfl (by decide) ?_; clear hT; intro a hT
    refine l_end ?_
    refine then_norm ?_
    refine wp_ret ?_
    refine then_ret ?_
    refine c_ret (vs := [(vI (-1))]) (rs := [.tmp 4]) hT rfl (.tmp rfl .nil) ?_
    refine ⟨?_, hL.drop⟩; simp only [packed]; unfold cmpB; (repeat' split) <;> first | rfl | contradiction
  · skip
    have hc1 := of_decide_eq_false hc1
    refine wp_skip ?_
    refine then_norm ?_
    refine c_seq ?_
    refine c_seq ?_
    refine c_region ?_
    refine l_q hT (q_move hT rfl) rfl rfl (by decide) ?_; clear hT; intro a hT
    refine l_q hT (q_move hT rfl) rfl rfl (by decide) ?_; clear hT; intro a hT
    refine l_q hT (q_gt8 (u := x) (v := y) hT rfl rfl) rfl rfl (by decide) ?_; clear hT; intro a hT
    refine l_end ?_
    refine then_norm ?_
    refine c_if hT rfl (fun hc2 => ?_) (fun hc2 => ?_)
    · skip
      have hc2 := of_decide_eq_true hc2
      refine c_seq ?_
      refine c_region ?_
      refine l_q hT (q_assign hT rfl) rfl rfl (by decide) ?_; clear hT; intro a hT
      refine l_end ?_
      refine then_norm ?_
      refine wp_ret ?_
      refine then_ret ?_
      refine c_ret (vs := [(vI 1)]) (rs := [.tmp 4]) hT rfl (.tmp rfl .nil) ?_
      refine ⟨?_, hL.drop⟩; simp only [packed]; unfold cmpB; (repeat' split) <;> first | rfl | contradiction
    · skip
      have hc2 := of_decide_eq_false hc2
      refine wp_skip ?_
      refine then_norm ?_
      refine c_seq ?_
      refine c_region ?_
      refine l_q hT (q_assign hT rfl) rfl rfl (by decide) ?_; clear hT; intro a hT
      refine l_end ?_
      refine then_norm ?_
      refine wp_ret ?_
      refine c_ret (vs := [(vI 0)]) (rs := [.tmp 4]) hT rfl (.tmp rfl .nil) ?_
      refine ⟨?_, hL.drop⟩; simp only [packed]; unfold cmpB; (repeat' split) <;> first | rfl | contradiction

set_option maxRecDepth 20000 in
set_option maxHeartbeats 1000000 in
theorem cmpL_spec (xs ys : List UInt8) (p q : Option Addr) (l m cp cq : Nat) (hlb : l < 4611686018427387904) (w0 : World) (hx : SlB w0 p l xs) (hy : SlB w0 q m ys) :
    Calls Tryz.prog 167 #[(Value.slice p l cp), (Value.slice q m cq)] w0 fun e w' => e = .returned (vI (cmpL xs ys)) ∧ Ext w0 w' := by
  refine c_enter (n := 36) (args := [(Value.slice p l cp), (Value.slice q m cq)]) Tryz.func167 rfl rfl (Nat.le_of_ble_eq_true rfl) rfl (fun a hT => ?_)
  simp only [List.zipIdx_cons, List.zipIdx_nil, List.map_cons, List.map_nil, Nat.reduceAdd] at hT
  have hL := Vg.Loc.refl [] w0
  have hxt := hx.t
  have hyt := hy.t
  have hxl : xs.length = l := hx.1
  have hyl : ys.length = m := hy.1
  refine c_seq ?_
  refine c_region ?_
  refine l_q hT (q_assign hT rfl) rfl rfl (by decide) ?_; clear hT; intro a hT
  refine l_end ?_
  refine then_norm ?_
  refine c_seq ?_
  refine c_seq ?_
  refine c_region ?_
  refine l_q hT (q_move hT rfl) rfl rfl (by decide) ?_; clear hT; intro a hT
  refine l_q hT (q_len_slice hT rfl Tryz.underlying154) rfl rfl (by decide) ?_; clear hT; intro a hT
  refine l_q hT (q_move hT rfl) rfl rfl (by decide) ?_; clear hT; intro a hT
  refine l_end ?_
  refine then_norm ?_
  refine wp_block ?_
  refine c_loop (fun mz a wz => ∃ t : Nat, mz = l - t ∧ t ≤ l ∧ t ≤ m ∧ cmpL xs ys = cmpL (xs.drop t) (ys.drop t) ∧ Tm 36 a [(0, (Value.slice p l cp)), (1, (Value.slice q m cq)), (4, (vI 0)), (9, (Value.slice p l cp)), (10, (vI (l : Int))), (11, (vI (t : Int)))] ∧ Vg.Loc [] w0 wz []) id l ?_ ?_
  · exact ⟨0, rfl, by omega, by omega, by simp, hT.keep [0, 1, 4, 9, 10, 11] rfl, hL⟩
  clear hT hL
  rintro mz a w1 ⟨t, rfl, ht, htm, hcm, hT, hL⟩
  refine c_seq ?_
  refine c_region ?_
  refine l_q hT (q_lss hT rfl rfl) rfl rfl (by decide) ?_; clear hT; intro a hT
  refine l_end ?_
  refine then_norm ?_
  refine c_seq ?_
  refine c_if hT rfl (fun hc1 => ?_) (fun hc1 => ?_)
  · skip
    have hc1 := of_decide_eq_true hc1
    refine wp_skip ?_
    refine then_norm ?_
    refine c_seq ?_
    refine wp_block ?_
    refine c_seq ?_
    refine c_region ?_
    refine l_q hT (q_move hT rfl) rfl rfl (by decide) ?_; clear hT; intro a hT
    obtain ⟨sb1, so1, hp1, hrd1⟩ := (hxt).2 (by omega)
    refine l_q hT (q_indexAddr (b := sb1) (off := so1) (len := l) (cap := cp) hT (by rw [← hp1]; rfl) rfl Tryz.sli154 (by omega) (by omega)) rfl rfl (by decide) ?_; clear hT; intro a hT
    refine l_q hT (q_load hT rfl Tryz.ty5 (Rd.loc (hrd1 t (by omega)) hL (by simp))) rfl rfl (by decide) ?_; clear hT; intro a hT
    refine l_q hT (q_assign hT rfl) rfl rfl (by decide) ?_; clear hT; intro a hT
    refine l_q hT (q_assign hT rfl) rfl rfl (by decide) ?_; clear hT; intro a hT
    refine l_end ?_
    refine then_norm ?_
    refine c_seq ?_
    refine c_seq ?_
    refine c_region ?_
    refine l_q hT (q_move hT rfl) rfl rfl (by decide) ?_; clear hT; intro a hT
    refine l_q hT (q_move hT rfl) rfl rfl (by decide) ?_; clear hT; intro a hT
    refine l_q hT (q_len_slice hT rfl Tryz.underlying154) rfl rfl (by decide) ?_; clear hT; intro a hT
    refine l_q hT (q_geq hT rfl rfl) rfl rfl (by decide) ?_; clear hT; intro a hT
    refine l_end ?_
    refine then_norm ?_
    refine c_if hT rfl (fun hc2 => ?_) (fun hc2 => ?_)
    · skip
      have hc2 := of_decide_eq_true hc2
      refine c_seq ?_
      refine c_region ?_
      refine l_q hT (q_assign hT rfl) rfl rfl (by decide) ?_; clear hT; intro a hT
      refine l_end ?_
      refine then_norm ?_
      refine wp_ret ?_
      refine then_ret ?_
      refine blk_ret ?_
      refine then_ret ?_
      refine then_ret ?_
      refine blk_ret ?_
      refine then_ret ?_
      refine c_ret (vs := [(vI 1)]) (rs := [.tmp 4]) hT rfl (.tmp rfl .nil) ?_
      refine ⟨?_, hL.drop⟩; rw [hcm, cmpL_end1 (by omega) (by omega)]; rfl
    · skip
      have hc2 := of_decide_eq_false hc2
      refine wp_skip ?_
      refine then_norm ?_
      refine c_seq ?_
      refine c_region ?_
      refine l_q hT (q_move hT rfl) rfl rfl (by decide) ?_; clear hT; intro a hT
      refine l_q hT (q_move hT rfl) rfl rfl (by decide) ?_; clear hT; intro a hT
      obtain ⟨sb2, so2, hp2, hrd2⟩ := (hyt).2 (by omega)
      refine l_q hT (q_indexAddr (b := sb2) (off := so2) (len := m) (cap := cq) hT (by rw [← hp2]; rfl) rfl Tryz.sli154 (by omega) (by omega)) rfl rfl (by decide) ?_; clear hT; intro a hT
      refine l_q hT (q_load hT rfl Tryz.ty5 (Rd.loc (hrd2 t (by omega)) hL (by simp))) rfl rfl (by decide) ?_; clear hT; intro a hT
      refine l_q hT (q_assign hT rfl) rfl rfl (by decide) ?_; clear hT; intro a hT
      refine l_end ?_
      refine then_norm ?_
      refine c_seq ?_
      refine c_region ?_
      refine l_q hT (q_move hT rfl) rfl rfl (by decide) ?_; clear hT; intro a hT
      refine l_q hT (q_move hT rfl) rfl rfl (by decide) ?_; clear hT; intro a hT
      refine l_do rfl ?_
      refine w_callT (xs := [.tmp 24, .tmp 25]) hT rfl (vs := [(v8 (xs.getD t 0)), (v8 (ys.getD t 0))]) rfl (args := #[(v8 (xs.getD t 0)), (v8 (ys.getD t 0))]) rfl Tryz.func186 rfl rfl (by decide) ((cmpB_spec (xs.getD t 0) (ys.getD t 0) _).mono ?_)
      rintro e w2 ⟨rfl, hX⟩
      refine ⟨_, rfl, ?_⟩; clear hT; intro a hT; replace hT : Tm 36 a ((26, (vI (cmpB (xs.getD t 0) (ys.getD t 0)))) :: _) := hT
      replace hL := hL.ext hX
      refine l_q hT (q_assign hT rfl) rfl rfl (by decide) ?_; clear hT; intro a hT
      refine l_end ?_
      refine then_norm ?_
      refine c_seq ?_
      refine c_region ?_
      refine l_q hT (q_move hT rfl) rfl rfl (by decide) ?_; clear hT; intro a hT
      refine l_q hT (q_neq hT rfl rfl) rfl rfl (by decide) ?_; clear hT; intro a hT
      refine l_end ?_
      refine then_norm ?_
      refine c_if hT rfl (fun hc3 => ?_) (fun hc3 => ?_)
      · skip
        have hc3 := of_decide_eq_true hc3
        refine c_seq ?_
        refine c_region ?_
        refine l_q hT (q_move hT rfl) rfl rfl (by decide) ?_; clear hT; intro a hT
        refine l_q hT (q_assign hT rfl) rfl rfl (by decide) ?_; clear hT; intro a hT
        refine l_end ?_
        refine then_norm ?_
        refine wp_ret ?_
        refine blk_ret ?_
        refine then_ret ?_
        refine then_ret ?_
        refine blk_ret ?_
        refine then_ret ?_
        refine c_ret (vs := [(vI (cmpB (xs.getD t 0) (ys.getD t 0)))]) (rs := [.tmp 4]) hT rfl (.tmp rfl .nil) ?_
        refine ⟨?_, hL.drop⟩; rw [hcm, cmpL_step (by omega) (by omega), if_neg (by omega)]; rfl
      · skip
        have hc3 := of_decide_eq_false hc3
        refine wp_skip ?_
        refine blk_norm ?_
        refine then_norm ?_
        refine c_region ?_
        refine l_q hT (q_addI hT rfl rfl (r := (t : Int) + 1) rfl (by omega) (by omega)) rfl rfl (by decide) ?_; clear hT; intro a hT
        refine l_q hT (q_move hT rfl) rfl rfl (by decide) ?_; clear hT; intro a hT
        refine l_end ?_
        refine then_norm ?_
        exact ⟨_, ⟨t + 1, rfl, by omega, by omega, by rw [hcm, cmpL_step (by omega) (by omega), if_pos (by omega)], hT.keep [0, 1, 4, 9, 10, 11] rfl, hL⟩, by simp only [id]; omega⟩
  · skip
    have hc1 := of_decide_eq_false hc1
    refine wp_exit ?_
    refine then_exit ?_
    refine then_exit ?_
    refine blk_exit ?_
    refine then_norm ?_
    refine c_seq ?_
    refine c_seq ?_
    refine c_region ?_
    refine l_q hT (q_move hT rfl) rfl rfl (by decide) ?_; clear hT; intro a hT
    refine l_q hT (q_len_slice hT rfl Tryz.underlying154) rfl rfl (by decide) ?_; clear hT; intro a hT
    refine l_q hT (q_move hT rfl) rfl rfl (by decide) ?_; clear hT; intro a hT
    refine l_q hT (q_len_slice hT rfl Tryz.underlying154) rfl rfl (by decide) ?_; clear hT; intro a hT
    refine l_q hT (q_lss hT rfl rfl) rfl rfl (by decide) ?_; clear hT; intro a hT
    refine l_end ?_
    refine then_norm ?_
    refine c_if hT rfl (fun hc4 => ?_) (fun hc4 => ?_)
    · skip
      have hc4 := of_decide_eq_true hc4
      refine c_seq ?_
      refine c_region ?_
      refine l_q hT (q_assign hT rfl) rfl rfl (by decide) ?_; clear hT; intro a hT
      refine l_end ?_
      refine then_norm ?_
      refine wp_ret ?_
      refine then_ret ?_
      refine c_ret (vs := [(vI (-1))]) (rs := [.tmp 4]) hT rfl (.tmp rfl .nil) ?_
      refine ⟨?_, hL.drop⟩; rw [hcm, cmpL_end2 (by omega), if_pos (by omega)]; rfl
    · skip
      have hc4 := of_decide_eq_false hc4
      refine wp_skip ?_
      refine then_norm ?_
      refine c_seq ?_
      refine c_region ?_
      refine l_q hT (q_assign hT rfl) rfl rfl (by decide) ?_; clear hT; intro a hT
      refine l_end ?_
      refine then_norm ?_
      refine wp_ret ?_
      refine c_ret (vs := [(vI 0)]) (rs := [.tmp 4]) hT rfl (.tmp rfl .nil) ?_
      refine ⟨?_, hL.drop⟩; rw [hcm, cmpL_end2 (by omega), if_neg (by omega)]; rfl

set_option maxRecDepth 20000 in
set_option maxHeartbeats 1000000 in
theorem cmpLeaf_spec (x y : Leaf) (w0 : World) :
    Calls Tryz.prog 166 #[(Value.agg (digC x.p ++ (digC x.v)).toArray), (Value.agg (digC y.p ++ (digC y.v)).toArray)] w0 fun e w' => e = .returned (vI (cmpLeaf x y)) ∧ Ext w0 w' := by
  refine c_enter (n := 10) (args := [(Value.agg (digC x.p ++ (digC x.v)).toArray), (Value.agg (digC y.p ++ (digC y.v)).toArray)]) Tryz.func166 rfl rfl (Nat.le_of_ble_eq_true rfl) rfl (fun a hT => ?_)
  simp only [List.zipIdx_cons, List.zipIdx_nil, List.map_cons, List.map_nil, Nat.reduceAdd] at hT
  have hL := Vg.Loc.refl [] w0
  refine c_seq ?_
  refine c_region ?_
  refine l_do rfl ?_
  refine w_box hT hL (by decide) rfl (c := digC x.p ++ (digC x.v)) rfl ?_; clear hT hL; intro b1 a w1 hT hL hE hB
  refine l_do rfl ?_
  refine w_box hT hL (by decide) rfl (c := digC y.p ++ (digC y.v)) rfl ?_; clear hT hL; intro b2 a w2 hT hL hE hB
  refine l_q hT (q_assign hT rfl) rfl rfl (by decide) ?_; clear hT; intro a hT
  refine l_end ?_
  refine then_norm ?_
  refine c_seq ?_
  refine d_start' hL #[false, false, false, false, false, false] [] rfl rfl rfl ?_; clear hL; intro w3 hL hE; have hR := hL; have hS := Ext.refl w3
  refine d_pure (i := 0) hT #[true, false, false, false, false, false] rfl (by kernel_rfl) rfl rfl (by decide) (fun _ _ _ h => h) (fun _ => q_fieldAddr hT rfl Tryz.fld85_0 rfl) ?_; clear hT; intro a hT
  refine d_pure (i := 1) hT #[true, true, false, false, false, false] rfl (by kernel_rfl) rfl rfl (by decide) (fun _ _ _ h => h) (fun _ => q_slice_arr hT rfl Tryz.arr24 (by omega)) ?_; clear hT; intro a hT
  refine d_pure (i := 2) hT #[true, true, true, false, false, false] rfl (by kernel_rfl) rfl rfl (by decide) (fun _ _ _ h => h) (fun _ => q_fieldAddr hT rfl Tryz.fld85_0 rfl) ?_; clear hT; intro a hT
  refine d_pure (i := 3) hT #[true, true, true, true, false, false] rfl (by kernel_rfl) rfl rfl (by decide) (fun _ _ _ h => h) (fun _ => q_slice_arr hT rfl Tryz.arr24 (by omega)) ?_; clear hT; intro a hT
  refine d_one (i := 4) hT #[true, true, true, true, true, false] rfl (by kernel_rfl) rfl ?_
  refine w_callT (xs := [.tmp 6, .tmp 8]) hT rfl (vs := [(Value.slice (some ⟨b1, 0, none⟩) 32 32), (Value.slice (some ⟨b2, 0, none⟩) 32 32)]) rfl (args := #[(Value.slice (some ⟨b1, 0, none⟩) 32 32), (Value.slice (some ⟨b2, 0, none⟩) 32 32)]) rfl Tryz.func167 rfl rfl (by decide) ((cmpL_spec x.p.l y.p.l (some ⟨b1, 0, none⟩) (some ⟨b2, 0, none⟩) 32 32 32 32 (by decide) _ (SlB.dig (hL.rd 1 rfl 0 (ds := digC x.p) rfl)) (SlB.dig (hL.rd 0 rfl 0 (ds := digC y.p) rfl))).mono ?_)
  rintro e w4 ⟨rfl, hX⟩
  refine ⟨_, rfl, ?_⟩; clear hT; intro a hT; replace hT : Tm 10 a ((9, (vI (cmpL x.p.l y.p.l))) :: _) := hT
  replace hL := hL.ext hX
  replace hS := Vg.Loc.ext hS hX; refine ⟨fun _ => hS, ?_⟩
  refine d_pure (i := 5) hT #[true, true, true, true, true, true] rfl (by kernel_rfl) rfl rfl (by decide) (fun _ _ _ h => h) (fun _ => q_assign hT rfl) ?_; clear hT; intro a hT
  refine d_done (by kernel_rfl) ?_; clear hR hS
  refine then_norm ?_
  refine wp_ret ?_
  refine c_ret (vs := [(vI (cmpL x.p.l y.p.l))]) (rs := [.tmp 4]) hT rfl (.tmp rfl .nil) ?_
  exact ⟨rfl, hL.drop⟩
end Go.Proofs.YtcaffacganffjaaGreatDoor
end

section
namespace Go.Proofs
open Go.Shelf
def Tryz.sortL_ren : Go.Shelf.Ren := ⟨fun | 6 => 165 | 15 => 185 | 14 => 184 | 28 => 203 | 29 => 204 | 20 => 195 | 21 => 196 | 22 => 197 | 23 => 198 | 24 => 199 | 25 => 200 | 26 => 201 | 27 => 202 | 46 => 211 | 47 => 212 | 48 => 213 | 49 => 214 | 50 => 215 | 57 => 220 | n => n, fun | 22 => 22 | 24 => 85 | 25 => 203 | 3 => 3 | 39 => 224 | 0 => 0 | 53 => 188 | 55 => 223 | 4 => 4 | 46 => 249 | 45 => 248 | 50 => 141 | 5 => 5 | 9 => 9 | 66 => 261 | 70 => 265 | 76 => 270 | 77 => 271 | n => n, fun | n => n⟩
theorem Tryz.sortL : Go.Proofs.SlLaysF0.n6 Tryz.prog Tryz.sortL_ren := {
  mixed := by kernel_rfl
  f6 := ⟨Tryz.f165.name, by decide, Tryz.func165.trans (congrArg some (by kernel_rfl))⟩
  f14 := ⟨Tryz.f184.name, by decide, Tryz.func184.trans (congrArg some (by kernel_rfl))⟩
  f15 := Tryz.func185.trans (congrArg some (by kernel_rfl))
  f20 := ⟨Tryz.f195.name, by decide, Tryz.func195.trans (congrArg some (by kernel_rfl))⟩
  f21 := ⟨Tryz.f196.name, by decide, Tryz.func196.trans (congrArg some (by kernel_rfl))⟩
  f22 := ⟨Tryz.f197.name, by decide, Tryz.func197.trans (congrArg some (by kernel_rfl))⟩
  f23 := ⟨Tryz.f198.name, by decide, Tryz.func198.trans (congrArg some (by kernel_rfl))⟩
  f24 := ⟨Tryz.f199.name, by decide, Tryz.func199.trans (congrArg some (by kernel_rfl))⟩
  f25 := ⟨Tryz.f200.name, by decide, Tryz.func200.trans (congrArg some (by kernel_rfl))⟩
  f26 := ⟨Tryz.f201.name, by decide, Tryz.func201.trans (congrArg some (by kernel_rfl))⟩
  f27 := ⟨Tryz.f202.name, by decide, Tryz.func202.trans (congrArg some (by kernel_rfl))⟩
  f28 := Tryz.func203.trans (congrArg some (by kernel_rfl))
  f29 := Tryz.func204.trans (congrArg some (by kernel_rfl))
  f46 := ⟨Tryz.f211.name, by decide, Tryz.func211.trans (congrArg some (by kernel_rfl))⟩
  f47 := Tryz.func212.trans (congrArg some (by kernel_rfl))
  f48 := Tryz.func213.trans (congrArg some (by kernel_rfl))
  f49 := ⟨Tryz.f214.name, by decide, Tryz.func214.trans (congrArg some (by kernel_rfl))⟩
  f50 := ⟨Tryz.f215.name, by decide, Tryz.func215.trans (congrArg some (by kernel_rfl))⟩
  f57 := ⟨Tryz.f220.name, by decide, Tryz.func220.trans (congrArg some (by kernel_rfl))⟩
  t0 := Tryz.underlying0
  a0 := Tryz.isAgg0
  z0 := Tryz.sizeOf0
  v0 := Tryz.zeroValue0
  t3 := Tryz.underlying3
  a3 := Tryz.isAgg3
  z3 := Tryz.sizeOf3
  v3 := Tryz.zeroValue3
  t4 := Tryz.underlying4
  a4 := Tryz.isAgg4
  z4 := Tryz.sizeOf4
  v4 := Tryz.zeroValue4
  t5 := Tryz.underlying5
  a5 := Tryz.isAgg5
  z5 := Tryz.sizeOf5
  v5 := Tryz.zeroValue5
  t9 := Tryz.underlying9
  a9 := Tryz.isAgg9
  z9 := Tryz.sizeOf9
  v9 := Tryz.zeroValue9
  t22 := Tryz.underlying22
  a22 := Tryz.isAgg22
  z22 := Tryz.sizeOf22
  v22 := Tryz.zeroValue22
  t25 := Tryz.underlying203
  a25 := Tryz.isAgg203
  z25 := Tryz.sizeOf203
  v25 := Tryz.zeroValue203
  t39 := Tryz.underlying224
  a39 := Tryz.isAgg224
  z39 := Tryz.sizeOf224
  v39 := Tryz.zeroValue224
  t45 := Tryz.underlying248
  a45 := Tryz.isAgg248
  z45 := Tryz.sizeOf248
  v45 := Tryz.zeroValue248
  t46 := Tryz.underlying249
  a46 := Tryz.isAgg249
  z46 := Tryz.sizeOf249
  v46 := Tryz.zeroValue249
  t50 := Tryz.underlying141
  a50 := Tryz.isAgg141
  z50 := Tryz.sizeOf141
  v50 := Tryz.zeroValue141
  t53 := Tryz.underlying188
  a53 := Tryz.isAgg188
  z53 := Tryz.sizeOf188
  v53 := Tryz.zeroValue188
  t55 := Tryz.underlying223
  a55 := Tryz.isAgg223
  z55 := Tryz.sizeOf223
  v55 := Tryz.zeroValue223
  t66 := Tryz.underlying261
  a66 := Tryz.isAgg261
  z66 := Tryz.sizeOf261
  v66 := Tryz.zeroValue261
  t70 := Tryz.underlying265
  a70 := Tryz.isAgg265
  z70 := Tryz.sizeOf265
  v70 := Tryz.zeroValue265
  t76 := Tryz.underlying270
  a76 := Tryz.isAgg270
  z76 := Tryz.sizeOf270
  v76 := Tryz.zeroValue270
  t77 := Tryz.underlying271
  a77 := Tryz.isAgg271
  z77 := Tryz.sizeOf271
  v77 := Tryz.zeroValue271 }
end Go.Proofs
end
