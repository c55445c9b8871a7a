/- The walks of a part of the program: GTwice. Printed by a program of the prover. -/
import Derived.Test.YtcaffacganffjaaDoorVDig
import Derived.Test.YtcaffacganffjaaDoorVTypes
import Derived.Test.YtcaffacganffjaaDoorVSort
namespace Go.Proofs.YtcaffacganffjaaDoor
open Go Go.Vg


set_option maxRecDepth 20000 in
set_option maxHeartbeats 1000000 in
theorem twice_nil (p : Option Addr) (cap : Nat) (w0 : World) :
    Calls Tryd.prog 30 #[(Value.slice p 0 cap)] w0 fun e w' => e = .returned (.bool false) ∧ Ext w0 w' := by
  refine c_enter (n := 30) (args := [(Value.slice p 0 cap)]) Tryd.func30 rfl rfl (Nat.le_of_ble_eq_true rfl) rfl (fun a hT => ?_)
  simp only [List.zipIdx_cons, List.zipIdx_nil, List.map_cons, List.map_nil, Nat.reduceAdd] at hT
  have hL := Vg.Loc.refl [] w0
  refine c_seq ?_
  refine c_region ?_
  refine l_q hT (q_assign hT rfl) rfl rfl (by decide) ?_; clear hT; intro a hT
  refine l_end ?_
  refine then_norm ?_
  refine c_seq ?_
  refine c_region ?_
  refine l_q hT (q_move hT rfl) rfl rfl (by decide) ?_; clear hT; intro a hT
  refine l_do rfl ?_
  refine w_callT (xs := [.tmp 4]) hT rfl (vs := [(Value.slice p 0 cap)]) rfl (args := #[(Value.slice p 0 cap)]) rfl Tryd.func11 rfl rfl (by decide) ((Clone_none p cap _).mono ?_)
  rintro e w1 ⟨p1, cap1, rfl, hX⟩
  refine ⟨_, rfl, ?_⟩; clear hT; intro a hT; replace hT : Tm 30 a ((5, (Value.slice p1 0 cap1)) :: _) := hT
  replace hL := hL.ext hX
  refine l_q hT (q_assign hT rfl) rfl rfl (by decide) ?_; clear hT; intro a hT
  refine l_end ?_
  refine then_norm ?_
  refine c_seq ?_
  refine c_region ?_
  refine l_q hT (q_move hT rfl) rfl rfl (by decide) ?_; clear hT; intro a hT
  refine l_do rfl ?_
  refine w_callT (xs := [.tmp 6, .func 43]) hT rfl (vs := [(Value.slice p1 0 cap1), (Value.func (Fn.func 43) #[] #[])]) rfl (args := #[(Value.slice p1 0 cap1), (Value.func (Fn.func 43) #[] #[])]) rfl Tryd.func42 rfl rfl (by decide) ((sort_none p1 cap1 _ _).mono ?_)
  rintro e w2 ⟨rfl, hX⟩
  refine ⟨_, rfl, ?_⟩; clear hT; intro a hT; replace hT : Tm 30 a ((7, (Value.tuple #[])) :: _) := hT
  replace hL := hL.ext hX
  refine l_end ?_
  refine then_norm ?_
  refine c_seq ?_
  refine c_seq ?_
  refine c_region ?_
  refine l_q hT (q_move hT rfl) rfl rfl (by decide) ?_; clear hT; intro a hT
  refine l_q hT (q_len_slice hT rfl Tryd.underlying22) rfl rfl (by decide) ?_; clear hT; intro a hT
  refine l_q hT (q_move hT rfl) rfl rfl (by decide) ?_; clear hT; intro a hT
  refine l_end ?_
  refine then_norm ?_
  refine wp_block ?_
  refine c_loop (fun mz a wz => mz = 0 ∧ Tm 30 a [(2, (Value.bool false)), (9, (vI 0)), (10, (vI 0))] ∧ Vg.Loc [] w0 wz []) id 0 ?_ ?_
  · exact ⟨rfl, hT.keep [2, 9, 10] rfl, hL⟩
  clear hT hL
  rintro mz a w3 ⟨rfl, hT, hL⟩
  refine c_seq ?_
  refine c_region ?_
  refine l_q hT ((q_lss hT rfl rfl).b (b := false) rfl) rfl rfl (by decide) ?_; clear hT; intro a hT
  refine l_end ?_
  refine then_norm ?_
  refine c_seq ?_
  refine c_false hT rfl rfl ?_
  refine wp_exit ?_
  refine then_exit ?_
  refine then_exit ?_
  refine blk_exit ?_
  refine then_norm ?_
  refine c_seq ?_
  refine c_region ?_
  refine l_q hT (q_assign hT rfl) rfl rfl (by decide) ?_; clear hT; intro a hT
  refine l_end ?_
  refine then_norm ?_
  refine wp_ret ?_
  refine c_ret (vs := [(Value.bool false)]) (rs := [.tmp 2]) hT rfl (.tmp rfl .nil) ?_
  exact ⟨rfl, hL.drop⟩

set_option maxRecDepth 20000 in
set_option maxHeartbeats 1000000 in
theorem twice_some (ls : List Leaf) (ad : Addr) (len cap : Nat) (h0 : 0 < len) (hc : len ≤ 4096) (w0 : World) (hsl : SlT w0 (some ad) len 64 leafC noLeaf ls) :
    Calls Tryd.prog 30 #[(Value.slice (some ad) len cap)] w0 fun e w' => e = .returned (.bool (twins ls)) ∧ Ext w0 w' := by
  refine c_enter (n := 30) (args := [(Value.slice (some ad) len cap)]) Tryd.func30 rfl rfl (Nat.le_of_ble_eq_true rfl) rfl (fun a hT => ?_)
  simp only [List.zipIdx_cons, List.zipIdx_nil, List.map_cons, List.map_nil, Nat.reduceAdd] at hT
  have hL := Vg.Loc.refl [] w0
  have hlen : ls.length = len := hsl.1
  refine c_seq ?_
  refine c_region ?_
  refine l_q hT (q_assign hT rfl) rfl rfl (by decide) ?_; clear hT; intro a hT
  refine l_end ?_
  refine then_norm ?_
  refine c_seq ?_
  refine c_region ?_
  refine l_q hT (q_move hT rfl) rfl rfl (by decide) ?_; clear hT; intro a hT
  refine l_do rfl ?_
  refine w_callT (xs := [.tmp 4]) hT rfl (vs := [(Value.slice (some ad) len cap)]) rfl (args := #[(Value.slice (some ad) len cap)]) rfl Tryd.func11 rfl rfl (by decide) ((Clone_some ls ad len cap h0 hc _ (hsl.ext hL)).mono ?_)
  rintro e w1 ⟨g1, cap1, junk, rfl, hX, hlc⟩
  refine ⟨_, rfl, ?_⟩; clear hT; intro a hT; replace hT : Tm 30 a ((5, (Value.slice (some ⟨g1, 0, none⟩) len cap1)) :: _) := hT
  replace hL : Vg.Loc [] w0 w1 ([[(g1, ob (ls.flatMap leafC ++ (junk)) 36)]]) := hL.exts hX
  refine l_q hT (q_assign hT rfl) rfl rfl (by decide) ?_; clear hT; intro a hT
  refine l_end ?_
  refine then_norm ?_
  refine c_seq ?_
  refine c_region ?_
  refine l_q hT (q_move hT rfl) rfl rfl (by decide) ?_; clear hT; intro a hT
  refine l_do rfl ?_
  refine w_callT (xs := [.tmp 6, .func 43]) hT rfl (vs := [(Value.slice (some ⟨g1, 0, none⟩) len cap1), (Value.func (Fn.func 43) #[] #[])]) rfl (args := #[(Value.slice (some ⟨g1, 0, none⟩) len cap1), (Value.func (Fn.func 43) #[] #[])]) rfl Tryd.func42 rfl rfl (by decide) ((sort_spec ls g1 len cap1 junk _ hlen hc (hL.get 0 rfl)).mono ?_)
  rintro e w2 ⟨ms, rfl, hX, hperm, hsort⟩
  refine ⟨_, rfl, ?_⟩; clear hT; intro a hT; replace hT : Tm 30 a ((7, (Value.tuple #[])) :: _) := hT
  replace hL : Vg.Loc [] w0 w2 ([[(g1, ob (ms.flatMap leafC ++ (junk)) 36)]]) := Vg.Loc.call (ci := [[(g1, ob (ls.flatMap leafC ++ (junk)) 36)]]) (cr := []) hL hX
  refine l_end ?_
  refine then_norm ?_
  refine c_seq ?_
  refine c_seq ?_
  refine c_region ?_
  refine l_q hT (q_move hT rfl) rfl rfl (by decide) ?_; clear hT; intro a hT
  refine l_q hT (q_len_slice hT rfl Tryd.underlying22) rfl rfl (by decide) ?_; clear hT; intro a hT
  refine l_q hT (q_move hT rfl) rfl rfl (by decide) ?_; clear hT; intro a hT
  refine l_end ?_
  refine then_norm ?_
  refine wp_block ?_
  have hml : ms.length = len := by rw [hperm.length_eq, hlen]
  have htw := twins_of_sorted hperm hsort
  have hel : ∀ (w : World), Vg.Loc [] w0 w [[(g1, ob (ms.flatMap leafC ++ (junk)) 36)]] → ∀ i, i < len → Rd w g1 (0 + i * 64) (leafC (ms.getD i noLeaf)) := fun w h i hi => SlT.flat0 leafC_len ms g1 0 (h.rd 0 rfl 0 (by simp)) i (by omega)
  refine c_loop (fun mz a wz => ∃ t : Nat, mz = len - t ∧ t ≤ len ∧ (∀ i, 0 < i → i < t → (ms.getD i noLeaf).p ≠ (ms.getD (i - 1) noLeaf).p) ∧ Tm 30 a [(0, (Value.slice (some ⟨g1, 0, none⟩) len cap1)), (2, (Value.bool false)), (9, (vI (len : Int))), (10, (vI (t : Int)))] ∧ Vg.Loc [] w0 wz [[(g1, ob (ms.flatMap leafC ++ (junk)) 36)]]) id len ?_ ?_
  · exact ⟨0, rfl, by omega, fun i h1 h2 => by omega, hT.keep [0, 2, 9, 10] rfl, hL⟩
  clear hT hL
  rintro mz a w3 ⟨t, rfl, ht, hne, hT, hL⟩
  refine c_seq ?_
  refine c_region ?_
  refine l_q hT (q_lss hT rfl rfl) rfl rfl (by decide) ?_; clear hT; intro a hT
  refine l_end ?_
  refine then_norm ?_
  refine c_seq ?_
  refine c_if hT rfl (fun hc1 => ?_) (fun hc1 => ?_)
  · skip
    have hc1 := of_decide_eq_true hc1
    refine wp_skip ?_
    refine then_norm ?_
    refine c_seq ?_
    refine wp_block ?_
    refine c_seq ?_
    refine c_region ?_
    refine l_q hT (q_move hT rfl) rfl rfl (by decide) ?_; clear hT; intro a hT
    refine l_q hT (q_assign hT rfl) rfl rfl (by decide) ?_; clear hT; intro a hT
    refine l_end ?_
    refine then_norm ?_
    refine c_seq ?_
    refine d_start' hL #[false, false, false, false, false, false, false, false, false, false, false, false, false, false, false, false] [] rfl rfl rfl ?_; clear hL; intro w4 hL hE; have hR := hL; have hS := Ext.refl w4
    refine d_pure (i := 0) hT #[true, false, false, false, false, false, false, false, false, false, false, false, false, false, false, false] rfl (by kernel_rfl) rfl rfl (by decide) (fun _ _ _ h => h) (fun _ => q_move hT rfl) ?_; clear hT; intro a hT
    refine d_pure (i := 1) hT #[true, true, false, false, false, false, false, false, false, false, false, false, false, false, false, false] rfl (by kernel_rfl) rfl rfl (by decide) (fun _ _ _ h => h) (fun _ => q_gtr hT rfl rfl) ?_; clear hT; intro a hT
    refine d_pure (i := 2) hT #[true, true, true, false, false, false, false, false, false, false, false, false, false, false, false, false] rfl (by kernel_rfl) rfl rfl (by decide) (fun _ _ _ h => h) (fun _ => q_move hT rfl) ?_; clear hT; intro a hT
    rcases Bool.eq_false_or_eq_true (decide (0 < (t : Int))) with hc2 | hc2
    · rw [hc2] at hT
      have hc2 := of_decide_eq_true hc2
      refine d_pure (i := 3) hT #[true, true, true, true, false, false, false, false, false, false, false, false, false, false, false, false] rfl (by kernel_rfl) rfl rfl (by decide) (fun _ _ _ h => h) (fun _ => q_move hT rfl) ?_; clear hT; intro a hT
      refine d_pure (i := 4) hT #[true, true, true, true, true, false, false, false, false, false, false, false, false, false, false, false] rfl (by kernel_rfl) rfl rfl (by decide) (fun _ _ _ h => h) (fun _ => q_move hT rfl) ?_; clear hT; intro a hT
      refine d_pure (i := 5) hT #[true, true, true, true, true, true, false, false, false, false, false, false, false, false, false, false] rfl (by kernel_rfl) rfl rfl (by decide) (fun _ _ _ h => h) (fun _ => q_indexAddr hT rfl rfl Tryd.sli22 (by omega) (by omega)) ?_; clear hT; intro a hT
      refine d_pure (i := 6) hT #[true, true, true, true, true, true, true, false, false, false, false, false, false, false, false, false] rfl (by kernel_rfl) rfl rfl (by decide) (fun _ _ _ h => h) (fun _ => q_fieldAddr hT rfl Tryd.fld36_0 rfl) ?_; clear hT; intro a hT
      refine d_pure (i := 8) hT #[true, true, true, true, true, true, true, false, true, false, false, false, false, false, false, false] rfl (by kernel_rfl) rfl rfl (by decide) (fun _ _ _ h => h) (fun _ => q_move hT rfl) ?_; clear hT; intro a hT
      refine d_pure (i := 9) hT #[true, true, true, true, true, true, true, false, true, true, false, false, false, false, false, false] rfl (by kernel_rfl) rfl rfl (by decide) (fun _ _ _ h => h) (fun _ => q_move hT rfl) ?_; clear hT; intro a hT
      refine d_pure (i := 10) hT #[true, true, true, true, true, true, true, false, true, true, true, false, false, false, false, false] rfl (by kernel_rfl) rfl rfl (by decide) (fun _ _ _ h => h) (fun _ => (q_subI hT rfl rfl (r := (t : Int) - 1) rfl (by omega) (by omega)).v (v := vI ((t - 1 : Nat) : Int)) (by congr 1; omega)) ?_; clear hT; intro a hT
      refine d_pure (i := 11) hT #[true, true, true, true, true, true, true, false, true, true, true, true, false, false, false, false] rfl (by kernel_rfl) rfl rfl (by decide) (fun _ _ _ h => h) (fun _ => q_indexAddr hT rfl rfl Tryd.sli22 (by omega) (by omega)) ?_; clear hT; intro a hT
      refine d_pure (i := 12) hT #[true, true, true, true, true, true, true, false, true, true, true, true, true, false, false, false] rfl (by kernel_rfl) rfl rfl (by decide) (fun _ _ _ h => h) (fun _ => q_fieldAddr hT rfl Tryd.fld36_0 rfl) ?_; clear hT; intro a hT
      refine d_take (i := 7) hT #[true, true, true, true, true, true, true, true, true, true, true, true, true, false, false, false] rfl (by kernel_rfl) rfl rfl (by decide) (fun _ _ _ h => h) (fun _ hs => q_load_agg hT rfl Tryd.ty24 (Rd.ext ((hel _ hR t (by omega)).part 0 (ds := digC ((ms.getD t noLeaf).p)) rfl) hs) rfl) hS ?_; clear hT; intro a hT
      refine d_take (i := 13) hT #[true, true, true, true, true, true, true, true, true, true, true, true, true, true, false, false] rfl (by kernel_rfl) rfl rfl (by decide) (fun _ _ _ h => h) (fun _ hs => q_load_agg hT rfl Tryd.ty24 (Rd.ext ((hel _ hR (t - 1 : Nat) (by omega)).part 0 (ds := digC ((ms.getD (t - 1 : Nat) noLeaf).p)) rfl) hs) rfl) hS ?_; clear hT; intro a hT
      refine d_pure (i := 14) hT #[true, true, true, true, true, true, true, true, true, true, true, true, true, true, true, false] rfl (by kernel_rfl) rfl rfl (by decide) (fun _ _ _ h => h) (fun _ => q_eq_agg hT rfl rfl Tryd.eqg24 (EqR.dig Tryd.arr24 Tryd.underlying5 ((ms.getD t noLeaf).p) ((ms.getD (t - 1 : Nat) noLeaf).p)) (by decide)) ?_; clear hT; intro a hT
      refine d_pure (i := 15) hT #[true, true, true, true, true, true, true, true, true, true, true, true, true, true, true, true] rfl (by kernel_rfl) rfl rfl (by decide) (fun _ _ _ h => h) (fun _ => (q_pick hT rfl rfl rfl).v (v := (Value.bool (decide (((ms.getD t noLeaf).p) = ((ms.getD (t - 1 : Nat) noLeaf).p))))) rfl) ?_; clear hT; intro a hT
      refine d_done (by kernel_rfl) ?_; clear hR hS
      refine then_norm ?_
      refine c_if hT rfl (fun hc3 => ?_) (fun hc3 => ?_)
      · skip
        have hc3 := of_decide_eq_true hc3
        refine c_seq ?_
        refine c_region ?_
        refine l_q hT (q_assign hT rfl) rfl rfl (by decide) ?_; clear hT; intro a hT
        refine l_end ?_
        refine then_norm ?_
        refine wp_ret ?_
        refine blk_ret ?_
        refine then_ret ?_
        refine then_ret ?_
        refine blk_ret ?_
        refine then_ret ?_
        refine c_ret (vs := [(Value.bool true)]) (rs := [.tmp 2]) hT rfl (.tmp rfl .nil) ?_
        refine ⟨?_, hL.drop⟩; rw [htw.2 ⟨t, by omega, by omega, by simp_all⟩]; rfl
      · skip
        have hc3 := of_decide_eq_false hc3
        refine wp_skip ?_
        refine blk_norm ?_
        refine then_norm ?_
        refine c_region ?_
        refine l_q hT (q_addI hT rfl rfl (r := (t : Int) + 1) rfl (by omega) (by omega)) rfl rfl (by decide) ?_; clear hT; intro a hT
        refine l_q hT (q_move hT rfl) rfl rfl (by decide) ?_; clear hT; intro a hT
        refine l_end ?_
        refine then_norm ?_
        have hne2 : ∀ i, 0 < i → i < t + 1 → (ms.getD i noLeaf).p ≠ (ms.getD (i - 1) noLeaf).p := by
          intro i h1 h2
          rcases Nat.lt_or_ge i t with q | q
          · exact hne i h1 q
          · obtain rfl : i = t := by omega
            first | omega | simp_all
        exact ⟨_, ⟨t + 1, rfl, by omega, hne2, hT.keep [0, 2, 9, 10] rfl, hL⟩, by simp only [id]; omega⟩
    · rw [hc2] at hT
      have hc2 := of_decide_eq_false hc2
      refine d_off (i := 3) hT #[true, true, true, true, false, false, false, false, false, false, false, false, false, false, false, false] rfl (by kernel_rfl) rfl rfl (by decide) (fun _ _ _ h => h) ?_; clear hT; intro a hT
      refine d_off (i := 4) hT #[true, true, true, true, true, false, false, false, false, false, false, false, false, false, false, false] rfl (by kernel_rfl) rfl rfl (by decide) (fun _ _ _ h => h) ?_; clear hT; intro a hT
      refine d_off (i := 5) hT #[true, true, true, true, true, true, false, false, false, false, false, false, false, false, false, false] rfl (by kernel_rfl) rfl rfl (by decide) (fun _ _ _ h => h) ?_; clear hT; intro a hT
      refine d_off (i := 6) hT #[true, true, true, true, true, true, true, false, false, false, false, false, false, false, false, false] rfl (by kernel_rfl) rfl rfl (by decide) (fun _ _ _ h => h) ?_; clear hT; intro a hT
      refine d_off (i := 7) hT #[true, true, true, true, true, true, true, true, false, false, false, false, false, false, false, false] rfl (by kernel_rfl) rfl rfl (by decide) (fun _ _ _ h => h) ?_; clear hT; intro a hT
      refine d_off (i := 8) hT #[true, true, true, true, true, true, true, true, true, false, false, false, false, false, false, false] rfl (by kernel_rfl) rfl rfl (by decide) (fun _ _ _ h => h) ?_; clear hT; intro a hT
      refine d_off (i := 9) hT #[true, true, true, true, true, true, true, true, true, true, false, false, false, false, false, false] rfl (by kernel_rfl) rfl rfl (by decide) (fun _ _ _ h => h) ?_; clear hT; intro a hT
      refine d_off (i := 10) hT #[true, true, true, true, true, true, true, true, true, true, true, false, false, false, false, false] rfl (by kernel_rfl) rfl rfl (by decide) (fun _ _ _ h => h) ?_; clear hT; intro a hT
      refine d_off (i := 11) hT #[true, true, true, true, true, true, true, true, true, true, true, true, false, false, false, false] rfl (by kernel_rfl) rfl rfl (by decide) (fun _ _ _ h => h) ?_; clear hT; intro a hT
      refine d_off (i := 12) hT #[true, true, true, true, true, true, true, true, true, true, true, true, true, false, false, false] rfl (by kernel_rfl) rfl rfl (by decide) (fun _ _ _ h => h) ?_; clear hT; intro a hT
      refine d_off (i := 13) hT #[true, true, true, true, true, true, true, true, true, true, true, true, true, true, false, false] rfl (by kernel_rfl) rfl rfl (by decide) (fun _ _ _ h => h) ?_; clear hT; intro a hT
      refine d_off (i := 14) hT #[true, true, true, true, true, true, true, true, true, true, true, true, true, true, true, false] rfl (by kernel_rfl) rfl rfl (by decide) (fun _ _ _ h => h) ?_; clear hT; intro a hT
      refine d_pure (i := 15) hT #[true, true, true, true, true, true, true, true, true, true, true, true, true, true, true, true] rfl (by kernel_rfl) rfl rfl (by decide) (fun _ _ _ h => h) (fun _ => (q_pick hT rfl rfl rfl).v (v := (Value.bool false)) rfl) ?_; clear hT; intro a hT
      refine d_done (by kernel_rfl) ?_; clear hR hS
      refine then_norm ?_
      refine c_false hT rfl rfl ?_
      refine wp_skip ?_
      refine blk_norm ?_
      refine then_norm ?_
      refine c_region ?_
      refine l_q hT (q_addI hT rfl rfl (r := (t : Int) + 1) rfl (by omega) (by omega)) rfl rfl (by decide) ?_; clear hT; intro a hT
      refine l_q hT (q_move hT rfl) rfl rfl (by decide) ?_; clear hT; intro a hT
      refine l_end ?_
      refine then_norm ?_
      have hne2 : ∀ i, 0 < i → i < t + 1 → (ms.getD i noLeaf).p ≠ (ms.getD (i - 1) noLeaf).p := by
        intro i h1 h2
        rcases Nat.lt_or_ge i t with q | q
        · exact hne i h1 q
        · obtain rfl : i = t := by omega
          first | omega | simp_all
      exact ⟨_, ⟨t + 1, rfl, by omega, hne2, hT.keep [0, 2, 9, 10] rfl, hL⟩, by simp only [id]; omega⟩
  · skip
    have hc1 := of_decide_eq_false hc1
    refine wp_exit ?_
    refine then_exit ?_
    refine then_exit ?_
    refine blk_exit ?_
    refine then_norm ?_
    refine c_seq ?_
    refine c_region ?_
    refine l_q hT (q_assign hT rfl) rfl rfl (by decide) ?_; clear hT; intro a hT
    refine l_end ?_
    refine then_norm ?_
    refine wp_ret ?_
    refine c_ret (vs := [(Value.bool false)]) (rs := [.tmp 2]) hT rfl (.tmp rfl .nil) ?_
    refine ⟨?_, hL.drop⟩; rw [show twins ls = false from by
          rw [Bool.eq_false_iff]
          intro h
          obtain ⟨i, h1, h2, h3⟩ := htw.1 h
          exact hne i h1 (by omega) h3]; rfl

theorem twice_ok : TwiceOK Tryd.prog 30 := by
  intro ls p len cap w0 hsl hc
  rcases Nat.eq_zero_or_pos len with rfl | h0
  · have : ls = [] := List.eq_nil_of_length_eq_zero hsl.1
    subst this
    exact twice_nil p cap w0
  · obtain ⟨b, off, rfl, _⟩ := hsl.2 h0
    exact twice_some ls _ len cap h0 hc w0 hsl

end Go.Proofs.YtcaffacganffjaaDoor
