/- The walks of a part of the program: GLaw6a. Printed by a program of the prover. The walks of a part of the program: GLaw6m. Printed by a program of the prover. The walks of a part of the program: GLaw6c. Printed by a program of the prover. -/
import Derived.Test.YtcaffacganffjaaGreatDoorM2
import Derived.Test.YtcaffacganffjaaGreatDoorM6
import Derived.Test.YtcaffacganffjaaGreatDoorM19
import Derived.Test.YtcaffacganffjaaGreatDoorM13

section
namespace Go.Proofs.YtcaffacganffjaaGreatDoor
open Go Go.Vg


set_option maxRecDepth 20000 in
set_option maxHeartbeats 1000000 in
theorem law06a_spec  (w0 : World) :
    Calls Tryz.prog 41 #[] w0 fun e w' => e = .returned (leafV aL) ∧ Ext w0 w' := by
  refine c_enter (n := 3) (args := []) Tryz.func41 rfl rfl (Nat.le_of_ble_eq_true rfl) rfl (fun a hT => ?_)
  simp only [List.zipIdx_cons, List.zipIdx_nil, List.map_cons, List.map_nil, Nat.reduceAdd] at hT
  have hL := Vg.Loc.refl [] w0
  refine c_seq ?_
  refine c_region ?_
  refine l_do rfl ?_
  refine w_alloc hT hL (by decide) Tryz.ty85 ?_; clear hT hL; intro b1 a w1 hT hL hE hB
  refine l_end ?_
  refine then_norm ?_
  refine c_seq ?_
  refine c_region ?_
  refine l_q hT (q_build (ps := [(0, .const (.int .u8 5))]) (pv := [(0, (v8 5))]) (v := .agg ([(v8 5)] ++ (List.replicate 31 (v8 0))).toArray) hT rfl (fun _ => by kernel_rfl)) rfl rfl (by decide) ?_; clear hT; intro a hT
  refine l_q hT (q_build (ps := [(1, .tmp 1)]) (pv := [(1, (Value.agg ([(v8 5)] ++ (List.replicate 31 (v8 0))).toArray))]) (v := .agg (digC Dig.zero ++ ([(v8 5)] ++ (List.replicate 31 (v8 0)))).toArray) hT rfl (fun _ => by kernel_rfl)) rfl rfl (by decide) ?_; clear hT; intro a hT
  refine l_do rfl ?_
  refine w_store hT hL 0 (c := digC Dig.zero ++ (digC Dig.zero)) rfl rfl Tryz.ty85 rfl (vs := digC Dig.zero ++ ([(v8 5)] ++ (List.replicate 31 (v8 0)))) rfl rfl (by first | decide | (simp [arr32_len, arr8_len, digC_len]; done) | (simp [arr32_len, arr8_len, digC_len]; omega)) rfl (c' := digC Dig.zero ++ ([(v8 5)] ++ (List.replicate 31 (v8 0)))) rfl ?_; clear hL; intro w2 hL hE
  replace hL : Vg.Loc [] w0 w2 ([[(b1, ob (digC Dig.zero ++ ([(v8 5)] ++ (List.replicate 31 (v8 0)))) 85)]]) := hL
  refine l_end ?_
  refine then_norm ?_
  refine wp_ret ?_
  refine c_ret (vs := [(Value.agg (digC Dig.zero ++ ([(v8 5)] ++ (List.replicate 31 (v8 0)))).toArray)]) (rs := [.cell 0 85]) hT rfl (.agg rfl Tryz.ty85 (hL.rd 0 rfl 0 (ds := digC Dig.zero ++ ([(v8 5)] ++ (List.replicate 31 (v8 0)))) rfl) rfl .nil) ?_
  exact ⟨rfl, hL.drop⟩

set_option maxRecDepth 20000 in
set_option maxHeartbeats 1000000 in
theorem law06b_spec  (w0 : World) :
    Calls Tryz.prog 42 #[] w0 fun e w' => e = .returned (leafV bL) ∧ Ext w0 w' := by
  refine c_enter (n := 4) (args := []) Tryz.func42 rfl rfl (Nat.le_of_ble_eq_true rfl) rfl (fun a hT => ?_)
  simp only [List.zipIdx_cons, List.zipIdx_nil, List.map_cons, List.map_nil, Nat.reduceAdd] at hT
  have hL := Vg.Loc.refl [] w0
  refine c_seq ?_
  refine c_region ?_
  refine l_do rfl ?_
  refine w_alloc hT hL (by decide) Tryz.ty85 ?_; clear hT hL; intro b1 a w1 hT hL hE hB
  refine l_end ?_
  refine then_norm ?_
  refine c_seq ?_
  refine c_region ?_
  refine l_q hT (q_build (ps := [(0, .const (.int .u8 128))]) (pv := [(0, (v8 128))]) (v := .agg ([(v8 128)] ++ (List.replicate 31 (v8 0))).toArray) hT rfl (fun _ => by kernel_rfl)) rfl rfl (by decide) ?_; clear hT; intro a hT
  refine l_q hT (q_build (ps := [(0, .const (.int .u8 6))]) (pv := [(0, (v8 6))]) (v := .agg ([(v8 6)] ++ (List.replicate 31 (v8 0))).toArray) hT rfl (fun _ => by kernel_rfl)) rfl rfl (by decide) ?_; clear hT; intro a hT
  refine l_q hT (q_build (ps := [(0, .tmp 1), (1, .tmp 2)]) (pv := [(0, (Value.agg ([(v8 128)] ++ (List.replicate 31 (v8 0))).toArray)), (1, (Value.agg ([(v8 6)] ++ (List.replicate 31 (v8 0))).toArray))]) (v := .agg ([(v8 128)] ++ (List.replicate 31 (v8 0) ++ ([(v8 6)] ++ (List.replicate 31 (v8 0))))).toArray) hT rfl (fun _ => by kernel_rfl)) rfl rfl (by decide) ?_; clear hT; intro a hT
  refine l_do rfl ?_
  refine w_store hT hL 0 (c := digC Dig.zero ++ (digC Dig.zero)) rfl rfl Tryz.ty85 rfl (vs := [(v8 128)] ++ (List.replicate 31 (v8 0) ++ ([(v8 6)] ++ (List.replicate 31 (v8 0))))) rfl rfl (by first | decide | (simp [arr32_len, arr8_len, digC_len]; done) | (simp [arr32_len, arr8_len, digC_len]; omega)) rfl (c' := [(v8 128)] ++ (List.replicate 31 (v8 0) ++ ([(v8 6)] ++ (List.replicate 31 (v8 0))))) rfl ?_; clear hL; intro w2 hL hE
  replace hL : Vg.Loc [] w0 w2 ([[(b1, ob ([(v8 128)] ++ (List.replicate 31 (v8 0) ++ ([(v8 6)] ++ (List.replicate 31 (v8 0))))) 85)]]) := hL
  refine l_end ?_
  refine then_norm ?_
  refine wp_ret ?_
  refine c_ret (vs := [(Value.agg ([(v8 128)] ++ (List.replicate 31 (v8 0) ++ ([(v8 6)] ++ (List.replicate 31 (v8 0))))).toArray)]) (rs := [.cell 0 85]) hT rfl (.agg rfl Tryz.ty85 (hL.rd 0 rfl 0 (ds := [(v8 128)] ++ (List.replicate 31 (v8 0) ++ ([(v8 6)] ++ (List.replicate 31 (v8 0))))) rfl) rfl .nil) ?_
  exact ⟨rfl, hL.drop⟩

theorem make_ab (p : Option Addr) (cap : Nat) (w0 : World) (hK : KeysAt w0) (hsl : SlT w0 p 2 64 leafC noLeaf [aL, bL]) : Calls Tryz.prog 11 #[vI 32, .slice p 2 cap, dv aL.p] w0 fun e w' =>
    ∃ g cps junk, e = .returned (.tuple #[.agg (claimC true aL.v).toArray, .agg (proofC (.slice (some ⟨g, 0, none⟩) 1 cps) false Dig.zero Dig.zero).toArray, vI 0]) ∧ Vg.Loc [] w0 w' [[(g, ob (digC (leafD 32 bL) ++ junk) 24)]] := by
  refine (make_ok 32 [aL, bL] p 2 cap aL.p (by decide) ab_root w0 hK hsl).mono ?_
  rintro e w' ⟨ps, cps, cs, he, hL, ho⟩
  rw [ab_go] at he ho
  obtain ⟨g, junk, rfl, rfl⟩ := ho.some (by decide)
  simp only [a_says] at he
  exact ⟨g, cps, junk, he, by simpa using hL⟩
theorem make_a (p : Option Addr) (cap : Nat) (w0 : World) (hK : KeysAt w0) (hsl : SlT w0 p 1 64 leafC noLeaf [aL]) : Calls Tryz.prog 11 #[vI 32, .slice p 1 cap, dv bL.p] w0 fun e w' =>
    ∃ ps cps, e = .returned (.tuple #[.agg (claimC false Dig.zero).toArray, .agg (proofC (.slice ps 0 cps) true aL.p aL.v).toArray, vI 0]) ∧ Ext w0 w' := by
  refine (make_ok 32 [aL] p 1 cap bL.p (by decide) a_root w0 hK hsl).mono ?_
  rintro e w' ⟨ps, cps, cs, he, hL, ho⟩
  rw [a_go] at he
  simp only [b_says] at he
  exact ⟨ps, cps, he, hL.drop⟩

end Go.Proofs.YtcaffacganffjaaGreatDoor
end

section
namespace Go.Proofs.YtcaffacganffjaaGreatDoor
open Go Go.Vg


set_option maxRecDepth 100000 in
set_option maxHeartbeats 4000000 in
theorem makes_spec  (w0 : World) (hK : KeysAt w0) :
    Calls Tryz.prog 14 #[] w0 fun e w' => e = .returned (.bool true) ∧ Ext w0 w' := by
  refine c_enter (n := 80) (args := []) Tryz.func14 rfl rfl (Nat.le_of_ble_eq_true rfl) rfl (fun a hT => ?_)
  simp only [List.zipIdx_cons, List.zipIdx_nil, List.map_cons, List.map_nil, Nat.reduceAdd] at hT
  have hL := Vg.Loc.refl [] w0
  refine c_seq ?_
  refine c_region ?_
  refine l_q hT (q_assign hT rfl) rfl rfl (by decide) ?_; clear hT; intro a hT
  refine l_end ?_
  refine then_norm ?_
  refine c_seq ?_
  refine c_region ?_
  refine l_do rfl ?_
  refine w_callT (xs := []) hT rfl (vs := []) rfl (args := #[]) rfl Tryz.func41 rfl rfl (by decide) ((law06a_spec _).mono ?_)
  rintro e w1 ⟨rfl, hX⟩
  refine ⟨_, rfl, ?_⟩; clear hT; intro a hT; replace hT : Tm 80 a ((8, (Value.agg (digC aL.p ++ (digC aL.v)).toArray)) :: _) := hT
  replace hL := hL.ext hX
  refine l_do rfl ?_
  refine w_callT (xs := []) hT rfl (vs := []) rfl (args := #[]) rfl Tryz.func42 rfl rfl (by decide) ((law06b_spec _).mono ?_)
  rintro e w2 ⟨rfl, hX⟩
  refine ⟨_, rfl, ?_⟩; clear hT; intro a hT; replace hT : Tm 80 a ((9, (Value.agg (digC bL.p ++ (digC bL.v)).toArray)) :: _) := hT
  replace hL := hL.ext hX
  refine l_do rfl ?_
  refine w_buildSlice (e := 85) (ps := [(0, .tmp 8), (1, .tmp 9)]) (pv := [(0, (Value.agg (digC aL.p ++ (digC aL.v)).toArray)), (1, (Value.agg (digC bL.p ++ (digC bL.v)).toArray))]) (c := digC aL.p ++ (digC aL.v ++ (digC bL.p ++ (digC bL.v)))) hT hL (by decide) rfl (fun _ => by kernel_rfl) ?_; clear hT hL; intro b1 a w3 hT hL hE hB
  refine l_do rfl ?_
  refine w_callT (xs := []) hT rfl (vs := []) rfl (args := #[]) rfl Tryz.func41 rfl rfl (by decide) ((law06a_spec _).mono ?_)
  rintro e w4 ⟨rfl, hX⟩
  refine ⟨_, rfl, ?_⟩; clear hT; intro a hT; replace hT : Tm 80 a ((11, (Value.agg (digC aL.p ++ (digC aL.v)).toArray)) :: _) := hT
  replace hL := hL.ext hX
  refine l_q hT (q_field_agg (cs := digC aL.p ++ (digC aL.v)) (ds := digC aL.p) hT rfl Tryz.fld85_0 rfl) rfl rfl (by decide) ?_; clear hT; intro a hT
  refine l_do rfl ?_
  refine w_callT (xs := [.const (.int .i64 32), .tmp 10, .tmp 12]) hT rfl (vs := [(vI 32), (Value.slice (some ⟨b1, 0, none⟩) 2 2), (Value.agg (digC aL.p).toArray)]) rfl (args := #[(vI 32), (Value.slice (some ⟨b1, 0, none⟩) 2 2), (Value.agg (digC aL.p).toArray)]) rfl Tryz.func11 rfl rfl (by decide) ((make_ab (some ⟨b1, 0, none⟩) 2 _ (hK.of hL (by simp)) (SlT.flat (d0 := noLeaf) leafC_len (hL.rd 0 rfl 0 (ds := ([aL, bL] : List Leaf).flatMap leafC) rfl))).mono ?_)
  rintro e w5 ⟨gs1, cps1, jk1, rfl, hX⟩
  refine ⟨_, rfl, ?_⟩; clear hT; intro a hT; replace hT : Tm 80 a ((13, (Value.tuple #[(Value.agg ([(Value.bool true)] ++ (digC aL.v)).toArray), (Value.agg ([(Value.slice (some ⟨gs1, 0, none⟩) 1 cps1), (Value.bool false)] ++ (digC Dig.zero ++ (digC Dig.zero))).toArray), (vI 0)])) :: _) := hT
  replace hL : Vg.Loc [] w0 w5 ([[(gs1, ob (digC (leafD 32 bL) ++ (jk1)) 24)], [(b1, ob (digC aL.p ++ (digC aL.v ++ (digC bL.p ++ (digC bL.v)))) 85)]]) := hL.exts hX
  refine l_q hT (q_move hT rfl) rfl rfl (by decide) ?_; clear hT; intro a hT
  refine l_q hT (q_extract hT rfl rfl) rfl rfl (by decide) ?_; clear hT; intro a hT
  refine l_q hT (q_extract hT rfl rfl) rfl rfl (by decide) ?_; clear hT; intro a hT
  refine l_q hT (q_extract hT rfl rfl) rfl rfl (by decide) ?_; clear hT; intro a hT
  refine l_do rfl ?_
  refine w_alloc hT hL (by decide) Tryz.ty26 ?_; clear hT hL; intro b2 a w6 hT hL hE hB
  refine l_do rfl ?_
  refine w_alloc hT hL (by decide) Tryz.ty29 ?_; clear hT hL; intro b3 a w7 hT hL hE hB
  refine l_do rfl ?_
  refine w_store hT hL 1 (c := [(Value.bool false)] ++ (digC Dig.zero)) rfl rfl Tryz.ty26 rfl (vs := [(Value.bool true)] ++ (digC aL.v)) rfl rfl (by first | decide | (simp [arr32_len, arr8_len, digC_len]; done) | (simp [arr32_len, arr8_len, digC_len]; omega)) rfl (c' := [(Value.bool true)] ++ (digC aL.v)) rfl ?_; clear hL; intro w8 hL hE
  replace hL : Vg.Loc [] w0 w8 ([[(b3, ob ([(Value.slice none 0 0), (Value.bool false)] ++ (digC Dig.zero ++ (digC Dig.zero))) 29)], [(b2, ob ([(Value.bool true)] ++ (digC aL.v)) 26)], [(gs1, ob (digC (leafD 32 bL) ++ (jk1)) 24)], [(b1, ob (digC aL.p ++ (digC aL.v ++ (digC bL.p ++ (digC bL.v)))) 85)]]) := hL
  refine l_do rfl ?_
  refine w_store hT hL 0 (c := [(Value.slice none 0 0), (Value.bool false)] ++ (digC Dig.zero ++ (digC Dig.zero))) rfl rfl Tryz.ty29 rfl (vs := [(Value.slice (some ⟨gs1, 0, none⟩) 1 cps1), (Value.bool false)] ++ (digC Dig.zero ++ (digC Dig.zero))) rfl rfl (by first | decide | (simp [arr32_len, arr8_len, digC_len]; done) | (simp [arr32_len, arr8_len, digC_len]; omega)) rfl (c' := [(Value.slice (some ⟨gs1, 0, none⟩) 1 cps1), (Value.bool false)] ++ (digC Dig.zero ++ (digC Dig.zero))) rfl ?_; clear hL; intro w9 hL hE
  replace hL : Vg.Loc [] w0 w9 ([[(b3, ob ([(Value.slice (some ⟨gs1, 0, none⟩) 1 cps1), (Value.bool false)] ++ (digC Dig.zero ++ (digC Dig.zero))) 29)], [(b2, ob ([(Value.bool true)] ++ (digC aL.v)) 26)], [(gs1, ob (digC (leafD 32 bL) ++ (jk1)) 24)], [(b1, ob (digC aL.p ++ (digC aL.v ++ (digC bL.p ++ (digC bL.v)))) 85)]]) := hL
  refine l_q hT (q_assign hT rfl) rfl rfl (by decide) ?_; clear hT; intro a hT
  refine l_end ?_
  refine then_norm ?_
  refine c_seq ?_
  refine c_region ?_
  refine l_do rfl ?_
  refine w_callT (xs := []) hT rfl (vs := []) rfl (args := #[]) rfl Tryz.func41 rfl rfl (by decide) ((law06a_spec _).mono ?_)
  rintro e w10 ⟨rfl, hX⟩
  refine ⟨_, rfl, ?_⟩; clear hT; intro a hT; replace hT : Tm 80 a ((18, (Value.agg (digC aL.p ++ (digC aL.v)).toArray)) :: _) := hT
  replace hL := hL.ext hX
  refine l_do rfl ?_
  refine w_buildSlice (e := 85) (ps := [(0, .tmp 18)]) (pv := [(0, (Value.agg (digC aL.p ++ (digC aL.v)).toArray))]) (c := digC aL.p ++ (digC aL.v)) hT hL (by decide) rfl (fun _ => by kernel_rfl) ?_; clear hT hL; intro b4 a w11 hT hL hE hB
  refine l_do rfl ?_
  refine w_callT (xs := []) hT rfl (vs := []) rfl (args := #[]) rfl Tryz.func42 rfl rfl (by decide) ((law06b_spec _).mono ?_)
  rintro e w12 ⟨rfl, hX⟩
  refine ⟨_, rfl, ?_⟩; clear hT; intro a hT; replace hT : Tm 80 a ((20, (Value.agg (digC bL.p ++ (digC bL.v)).toArray)) :: _) := hT
  replace hL := hL.ext hX
  refine l_q hT (q_field_agg (cs := digC bL.p ++ (digC bL.v)) (ds := digC bL.p) hT rfl Tryz.fld85_0 rfl) rfl rfl (by decide) ?_; clear hT; intro a hT
  refine l_do rfl ?_
  refine w_callT (xs := [.const (.int .i64 32), .tmp 19, .tmp 21]) hT rfl (vs := [(vI 32), (Value.slice (some ⟨b4, 0, none⟩) 1 1), (Value.agg (digC bL.p).toArray)]) rfl (args := #[(vI 32), (Value.slice (some ⟨b4, 0, none⟩) 1 1), (Value.agg (digC bL.p).toArray)]) rfl Tryz.func11 rfl rfl (by decide) ((make_a (some ⟨b4, 0, none⟩) 1 _ (hK.of hL (by simp)) (SlT.flat (d0 := noLeaf) leafC_len (hL.rd 0 rfl 0 (ds := ([aL] : List Leaf).flatMap leafC) rfl))).mono ?_)
  rintro e w13 ⟨ps1, cps2, rfl, hX⟩
  refine ⟨_, rfl, ?_⟩; clear hT; intro a hT; replace hT : Tm 80 a ((22, (Value.tuple #[(Value.agg ([(Value.bool false)] ++ (digC Dig.zero)).toArray), (Value.agg ([(Value.slice ps1 0 cps2), (Value.bool true)] ++ (digC aL.p ++ (digC aL.v))).toArray), (vI 0)])) :: _) := hT
  replace hL := hL.ext hX
  refine l_q hT (q_move hT rfl) rfl rfl (by decide) ?_; clear hT; intro a hT
  refine l_q hT (q_extract hT rfl rfl) rfl rfl (by decide) ?_; clear hT; intro a hT
  refine l_q hT (q_extract hT rfl rfl) rfl rfl (by decide) ?_; clear hT; intro a hT
  refine l_q hT (q_extract hT rfl rfl) rfl rfl (by decide) ?_; clear hT; intro a hT
  refine l_do rfl ?_
  refine w_alloc hT hL (by decide) Tryz.ty26 ?_; clear hT hL; intro b5 a w14 hT hL hE hB
  refine l_do rfl ?_
  refine w_alloc hT hL (by decide) Tryz.ty29 ?_; clear hT hL; intro b6 a w15 hT hL hE hB
  refine l_do rfl ?_
  refine w_store hT hL 1 (c := [(Value.bool false)] ++ (digC Dig.zero)) rfl rfl Tryz.ty26 rfl (vs := [(Value.bool false)] ++ (digC Dig.zero)) rfl rfl (by first | decide | (simp [arr32_len, arr8_len, digC_len]; done) | (simp [arr32_len, arr8_len, digC_len]; omega)) rfl (c' := [(Value.bool false)] ++ (digC Dig.zero)) rfl ?_; clear hL; intro w16 hL hE
  replace hL : Vg.Loc [] w0 w16 ([[(b6, ob ([(Value.slice none 0 0), (Value.bool false)] ++ (digC Dig.zero ++ (digC Dig.zero))) 29)], [(b5, ob ([(Value.bool false)] ++ (digC Dig.zero)) 26)], [(b4, ob (digC aL.p ++ (digC aL.v)) 85)], [(b3, ob ([(Value.slice (some ⟨gs1, 0, none⟩) 1 cps1), (Value.bool false)] ++ (digC Dig.zero ++ (digC Dig.zero))) 29)], [(b2, ob ([(Value.bool true)] ++ (digC aL.v)) 26)], [(gs1, ob (digC (leafD 32 bL) ++ (jk1)) 24)], [(b1, ob (digC aL.p ++ (digC aL.v ++ (digC bL.p ++ (digC bL.v)))) 85)]]) := hL
  refine l_do rfl ?_
  refine w_store hT hL 0 (c := [(Value.slice none 0 0), (Value.bool false)] ++ (digC Dig.zero ++ (digC Dig.zero))) rfl rfl Tryz.ty29 rfl (vs := [(Value.slice ps1 0 cps2), (Value.bool true)] ++ (digC aL.p ++ (digC aL.v))) rfl rfl (by first | decide | (simp [arr32_len, arr8_len, digC_len]; done) | (simp [arr32_len, arr8_len, digC_len]; omega)) rfl (c' := [(Value.slice ps1 0 cps2), (Value.bool true)] ++ (digC aL.p ++ (digC aL.v))) rfl ?_; clear hL; intro w17 hL hE
  replace hL : Vg.Loc [] w0 w17 ([[(b6, ob ([(Value.slice ps1 0 cps2), (Value.bool true)] ++ (digC aL.p ++ (digC aL.v))) 29)], [(b5, ob ([(Value.bool false)] ++ (digC Dig.zero)) 26)], [(b4, ob (digC aL.p ++ (digC aL.v)) 85)], [(b3, ob ([(Value.slice (some ⟨gs1, 0, none⟩) 1 cps1), (Value.bool false)] ++ (digC Dig.zero ++ (digC Dig.zero))) 29)], [(b2, ob ([(Value.bool true)] ++ (digC aL.v)) 26)], [(gs1, ob (digC (leafD 32 bL) ++ (jk1)) 24)], [(b1, ob (digC aL.p ++ (digC aL.v ++ (digC bL.p ++ (digC bL.v)))) 85)]]) := hL
  refine l_q hT (q_assign hT rfl) rfl rfl (by decide) ?_; clear hT; intro a hT
  refine l_end ?_
  refine then_norm ?_
  refine c_seq ?_
  refine d_start' hL #[false, false, false, false, false, false, false, false, false, false, false, false, false, false, false, false, false, false, false, false, false, false, false, false, false, false, false, false, false, false, false, false, false, false, false, false, false, false, false, false, false, false, false, false, false, false, false, false, false, false, false, false, false, false, false] [] rfl rfl rfl ?_; clear hL; intro w18 hL hE; have hR := hL; have hS := Ext.refl w18
  refine d_pure (i := 0) hT #[true, false, false, false, false, false, false, false, false, false, false, false, false, false, false, false, false, false, false, false, false, false, false, false, false, false, false, false, false, false, false, false, false, false, false, false, false, false, false, false, false, false, false, false, false, false, false, false, false, false, false, false, false, false, false] rfl (by kernel_rfl) rfl rfl (by decide) (fun _ _ _ h => h) (fun _ => q_move hT rfl) ?_; clear hT; intro a hT
  refine d_pure (i := 1) hT #[true, true, false, false, false, false, false, false, false, false, false, false, false, false, false, false, false, false, false, false, false, false, false, false, false, false, false, false, false, false, false, false, false, false, false, false, false, false, false, false, false, false, false, false, false, false, false, false, false, false, false, false, false, false, false] rfl (by kernel_rfl) rfl rfl (by decide) (fun _ _ _ h => h) (fun _ => (q_eql hT rfl rfl).b (b := true) rfl) ?_; clear hT; intro a hT
  refine d_pure (i := 2) hT #[true, true, true, false, false, false, false, false, false, false, false, false, false, false, false, false, false, false, false, false, false, false, false, false, false, false, false, false, false, false, false, false, false, false, false, false, false, false, false, false, false, false, false, false, false, false, false, false, false, false, false, false, false, false, false] rfl (by kernel_rfl) rfl rfl (by decide) (fun _ _ _ h => h) (fun _ => q_move hT rfl) ?_; clear hT; intro a hT
  refine d_pure (i := 3) hT #[true, true, true, true, false, false, false, false, false, false, false, false, false, false, false, false, false, false, false, false, false, false, false, false, false, false, false, false, false, false, false, false, false, false, false, false, false, false, false, false, false, false, false, false, false, false, false, false, false, false, false, false, false, false, false] rfl (by kernel_rfl) rfl rfl (by decide) (fun _ _ _ h => h) (fun _ => q_fieldAddr hT rfl Tryz.fld26_0 rfl) ?_; clear hT; intro a hT
  refine d_take (i := 4) hT #[true, true, true, true, true, false, false, false, false, false, false, false, false, false, false, false, false, false, false, false, false, false, false, false, false, false, false, false, false, false, false, false, false, false, false, false, false, false, false, false, false, false, false, false, false, false, false, false, false, false, false, false, false, false, false] rfl (by kernel_rfl) rfl rfl (by decide) (fun _ _ _ h => h) (fun _ hs => q_load hT rfl Tryz.ty4 (Rd.ext (hR.rd 4 rfl 0 (ds := [(Value.bool true)]) rfl) hs)) hS ?_; clear hT; intro a hT
  refine d_pure (i := 5) hT #[true, true, true, true, true, true, false, false, false, false, false, false, false, false, false, false, false, false, false, false, false, false, false, false, false, false, false, false, false, false, false, false, false, false, false, false, false, false, false, false, false, false, false, false, false, false, false, false, false, false, false, false, false, false, false] rfl (by kernel_rfl) rfl rfl (by decide) (fun _ _ _ h => h) (fun _ => (q_pick hT rfl rfl rfl).v (v := (Value.bool true)) rfl) ?_; clear hT; intro a hT
  refine d_pure (i := 6) hT #[true, true, true, true, true, true, true, false, false, false, false, false, false, false, false, false, false, false, false, false, false, false, false, false, false, false, false, false, false, false, false, false, false, false, false, false, false, false, false, false, false, false, false, false, false, false, false, false, false, false, false, false, false, false, false] rfl (by kernel_rfl) rfl rfl (by decide) (fun _ _ _ h => h) (fun _ => q_move hT rfl) ?_; clear hT; intro a hT
  refine d_pure (i := 7) hT #[true, true, true, true, true, true, true, true, false, false, false, false, false, false, false, false, false, false, false, false, false, false, false, false, false, false, false, false, false, false, false, false, false, false, false, false, false, false, false, false, false, false, false, false, false, false, false, false, false, false, false, false, false, false, false] rfl (by kernel_rfl) rfl rfl (by decide) (fun _ _ _ h => h) (fun _ => q_fieldAddr hT rfl Tryz.fld26_1 rfl) ?_; clear hT; intro a hT
  refine d_take (i := 8) hT #[true, true, true, true, true, true, true, true, true, false, false, false, false, false, false, false, false, false, false, false, false, false, false, false, false, false, false, false, false, false, false, false, false, false, false, false, false, false, false, false, false, false, false, false, false, false, false, false, false, false, false, false, false, false, false] rfl (by kernel_rfl) rfl rfl (by decide) (fun _ _ _ h => h) (fun _ hs => q_load_agg hT rfl Tryz.ty24 (Rd.ext (hR.rd 4 rfl 1 (ds := digC aL.v) rfl) hs) rfl) hS ?_; clear hT; intro a hT
  refine d_one (i := 9) hT #[true, true, true, true, true, true, true, true, true, true, false, false, false, false, false, false, false, false, false, false, false, false, false, false, false, false, false, false, false, false, false, false, false, false, false, false, false, false, false, false, false, false, false, false, false, false, false, false, false, false, false, false, false, false, false] rfl (by kernel_rfl) rfl ?_
  refine w_callT (xs := []) hT rfl (vs := []) rfl (args := #[]) rfl Tryz.func41 rfl rfl (by decide) ((law06a_spec _).mono ?_)
  rintro e w19 ⟨rfl, hX⟩
  refine ⟨_, rfl, ?_⟩; clear hT; intro a hT; replace hT : Tm 80 a ((35, (Value.agg (digC aL.p ++ (digC aL.v)).toArray)) :: _) := hT
  replace hL := hL.ext hX
  replace hS := Vg.Loc.ext hS hX; refine ⟨fun _ => hS, ?_⟩
  refine d_pure (i := 10) hT #[true, true, true, true, true, true, true, true, true, true, true, false, false, false, false, false, false, false, false, false, false, false, false, false, false, false, false, false, false, false, false, false, false, false, false, false, false, false, false, false, false, false, false, false, false, false, false, false, false, false, false, false, false, false, false] rfl (by kernel_rfl) rfl rfl (by decide) (fun _ _ _ h => h) (fun _ => q_field_agg (cs := digC aL.p ++ (digC aL.v)) (ds := digC aL.v) hT rfl Tryz.fld85_1 rfl) ?_; clear hT; intro a hT
  refine d_pure (i := 11) hT #[true, true, true, true, true, true, true, true, true, true, true, true, false, false, false, false, false, false, false, false, false, false, false, false, false, false, false, false, false, false, false, false, false, false, false, false, false, false, false, false, false, false, false, false, false, false, false, false, false, false, false, false, false, false, false] rfl (by kernel_rfl) rfl rfl (by decide) (fun _ _ _ h => h) (fun _ => (q_eq_agg hT rfl rfl Tryz.eqg24 (EqR.dig Tryz.arr24 Tryz.underlying5 aL.v aL.v) (by decide)).b (b := true) (by simp)) ?_; clear hT; intro a hT
  refine d_pure (i := 12) hT #[true, true, true, true, true, true, true, true, true, true, true, true, true, false, false, false, false, false, false, false, false, false, false, false, false, false, false, false, false, false, false, false, false, false, false, false, false, false, false, false, false, false, false, false, false, false, false, false, false, false, false, false, false, false, false] rfl (by kernel_rfl) rfl rfl (by decide) (fun _ _ _ h => h) (fun _ => (q_pick hT rfl rfl rfl).v (v := (Value.bool true)) rfl) ?_; clear hT; intro a hT
  refine d_pure (i := 13) hT #[true, true, true, true, true, true, true, true, true, true, true, true, true, true, false, false, false, false, false, false, false, false, false, false, false, false, false, false, false, false, false, false, false, false, false, false, false, false, false, false, false, false, false, false, false, false, false, false, false, false, false, false, false, false, false] rfl (by kernel_rfl) rfl rfl (by decide) (fun _ _ _ h => h) (fun _ => q_move hT rfl) ?_; clear hT; intro a hT
  refine d_pure (i := 14) hT #[true, true, true, true, true, true, true, true, true, true, true, true, true, true, true, false, false, false, false, false, false, false, false, false, false, false, false, false, false, false, false, false, false, false, false, false, false, false, false, false, false, false, false, false, false, false, false, false, false, false, false, false, false, false, false] rfl (by kernel_rfl) rfl rfl (by decide) (fun _ _ _ h => h) (fun _ => q_fieldAddr hT rfl Tryz.fld29_0 rfl) ?_; clear hT; intro a hT
  refine d_take (i := 15) hT #[true, true, true, true, true, true, true, true, true, true, true, true, true, true, true, true, false, false, false, false, false, false, false, false, false, false, false, false, false, false, false, false, false, false, false, false, false, false, false, false, false, false, false, false, false, false, false, false, false, false, false, false, false, false, false] rfl (by kernel_rfl) rfl rfl (by decide) (fun _ _ _ h => h) (fun _ hs => q_load hT rfl Tryz.ty27 (Rd.ext (hR.rd 3 rfl 0 (ds := [(Value.slice (some ⟨gs1, 0, none⟩) 1 cps1)]) rfl) hs)) hS ?_; clear hT; intro a hT
  refine d_pure (i := 16) hT #[true, true, true, true, true, true, true, true, true, true, true, true, true, true, true, true, true, false, false, false, false, false, false, false, false, false, false, false, false, false, false, false, false, false, false, false, false, false, false, false, false, false, false, false, false, false, false, false, false, false, false, false, false, false, false] rfl (by kernel_rfl) rfl rfl (by decide) (fun _ _ _ h => h) (fun _ => q_len_slice hT rfl Tryz.underlying27) ?_; clear hT; intro a hT
  refine d_pure (i := 17) hT #[true, true, true, true, true, true, true, true, true, true, true, true, true, true, true, true, true, true, false, false, false, false, false, false, false, false, false, false, false, false, false, false, false, false, false, false, false, false, false, false, false, false, false, false, false, false, false, false, false, false, false, false, false, false, false] rfl (by kernel_rfl) rfl rfl (by decide) (fun _ _ _ h => h) (fun _ => (q_eql hT rfl rfl).b (b := true) rfl) ?_; clear hT; intro a hT
  refine d_pure (i := 18) hT #[true, true, true, true, true, true, true, true, true, true, true, true, true, true, true, true, true, true, true, false, false, false, false, false, false, false, false, false, false, false, false, false, false, false, false, false, false, false, false, false, false, false, false, false, false, false, false, false, false, false, false, false, false, false, false] rfl (by kernel_rfl) rfl rfl (by decide) (fun _ _ _ h => h) (fun _ => (q_pick hT rfl rfl rfl).v (v := (Value.bool true)) rfl) ?_; clear hT; intro a hT
  refine d_pure (i := 19) hT #[true, true, true, true, true, true, true, true, true, true, true, true, true, true, true, true, true, true, true, true, false, false, false, false, false, false, false, false, false, false, false, false, false, false, false, false, false, false, false, false, false, false, false, false, false, false, false, false, false, false, false, false, false, false, false] rfl (by kernel_rfl) rfl rfl (by decide) (fun _ _ _ h => h) (fun _ => q_move hT rfl) ?_; clear hT; intro a hT
  refine d_pure (i := 20) hT #[true, true, true, true, true, true, true, true, true, true, true, true, true, true, true, true, true, true, true, true, true, false, false, false, false, false, false, false, false, false, false, false, false, false, false, false, false, false, false, false, false, false, false, false, false, false, false, false, false, false, false, false, false, false, false] rfl (by kernel_rfl) rfl rfl (by decide) (fun _ _ _ h => h) (fun _ => q_fieldAddr hT rfl Tryz.fld29_0 rfl) ?_; clear hT; intro a hT
  refine d_take (i := 21) hT #[true, true, true, true, true, true, true, true, true, true, true, true, true, true, true, true, true, true, true, true, true, true, false, false, false, false, false, false, false, false, false, false, false, false, false, false, false, false, false, false, false, false, false, false, false, false, false, false, false, false, false, false, false, false, false] rfl (by kernel_rfl) rfl rfl (by decide) (fun _ _ _ h => h) (fun _ hs => q_load hT rfl Tryz.ty27 (Rd.ext (hR.rd 3 rfl 0 (ds := [(Value.slice (some ⟨gs1, 0, none⟩) 1 cps1)]) rfl) hs)) hS ?_; clear hT; intro a hT
  refine d_pure (i := 22) hT #[true, true, true, true, true, true, true, true, true, true, true, true, true, true, true, true, true, true, true, true, true, true, true, false, false, false, false, false, false, false, false, false, false, false, false, false, false, false, false, false, false, false, false, false, false, false, false, false, false, false, false, false, false, false, false] rfl (by kernel_rfl) rfl rfl (by decide) (fun _ _ _ h => h) (fun _ => (q_indexAddr hT rfl rfl Tryz.sli27 (by omega) (by omega)).v (v := vp gs1 0) rfl) ?_; clear hT; intro a hT
  refine d_take (i := 23) hT #[true, true, true, true, true, true, true, true, true, true, true, true, true, true, true, true, true, true, true, true, true, true, true, true, false, false, false, false, false, false, false, false, false, false, false, false, false, false, false, false, false, false, false, false, false, false, false, false, false, false, false, false, false, false, false] rfl (by kernel_rfl) rfl rfl (by decide) (fun _ _ _ h => h) (fun _ hs => q_load_agg hT rfl Tryz.ty24 (Rd.ext (hR.rd 5 rfl 0 (ds := digC (leafD 32 bL)) rfl) hs) rfl) hS ?_; clear hT; intro a hT
  refine d_one (i := 24) hT #[true, true, true, true, true, true, true, true, true, true, true, true, true, true, true, true, true, true, true, true, true, true, true, true, true, false, false, false, false, false, false, false, false, false, false, false, false, false, false, false, false, false, false, false, false, false, false, false, false, false, false, false, false, false, false] rfl (by kernel_rfl) rfl ?_
  refine w_callT (xs := []) hT rfl (vs := []) rfl (args := #[]) rfl Tryz.func42 rfl rfl (by decide) ((law06b_spec _).mono ?_)
  rintro e w20 ⟨rfl, hX⟩
  refine ⟨_, rfl, ?_⟩; clear hT; intro a hT; replace hT : Tm 80 a ((50, (Value.agg (digC bL.p ++ (digC bL.v)).toArray)) :: _) := hT
  replace hL := hL.ext hX
  replace hS := Vg.Loc.ext hS hX; refine ⟨fun _ => hS, ?_⟩
  refine d_one (i := 25) hT #[true, true, true, true, true, true, true, true, true, true, true, true, true, true, true, true, true, true, true, true, true, true, true, true, true, true, false, false, false, false, false, false, false, false, false, false, false, false, false, false, false, false, false, false, false, false, false, false, false, false, false, false, false, false, false] rfl (by kernel_rfl) rfl ?_
  refine w_callT (xs := [.const (.int .i64 32), .tmp 50]) hT rfl (vs := [(vI 32), (Value.agg (digC bL.p ++ (digC bL.v)).toArray)]) rfl (args := #[(vI 32), (Value.agg (digC bL.p ++ (digC bL.v)).toArray)]) rfl Tryz.func43 rfl rfl (by decide) ((Leaf_spec (32) bL _ (hK.of hL (by simp))).mono ?_)
  rintro e w21 ⟨rfl, hX⟩
  refine ⟨_, rfl, ?_⟩; clear hT; intro a hT; replace hT : Tm 80 a ((51, (Value.agg (digC (leafD 32 bL)).toArray)) :: _) := hT
  replace hL := hL.ext hX
  replace hS := Vg.Loc.ext hS hX; refine ⟨fun _ => hS, ?_⟩
  refine d_pure (i := 26) hT #[true, true, true, true, true, true, true, true, true, true, true, true, true, true, true, true, true, true, true, true, true, true, true, true, true, true, true, false, false, false, false, false, false, false, false, false, false, false, false, false, false, false, false, false, false, false, false, false, false, false, false, false, false, false, false] rfl (by kernel_rfl) rfl rfl (by decide) (fun _ _ _ h => h) (fun _ => (q_eq_agg hT rfl rfl Tryz.eqg24 (EqR.dig Tryz.arr24 Tryz.underlying5 (leafD 32 bL) (leafD 32 bL)) (by decide)).b (b := true) (by simp)) ?_; clear hT; intro a hT
  refine d_pure (i := 27) hT #[true, true, true, true, true, true, true, true, true, true, true, true, true, true, true, true, true, true, true, true, true, true, true, true, true, true, true, true, false, false, false, false, false, false, false, false, false, false, false, false, false, false, false, false, false, false, false, false, false, false, false, false, false, false, false] rfl (by kernel_rfl) rfl rfl (by decide) (fun _ _ _ h => h) (fun _ => (q_pick hT rfl rfl rfl).v (v := (Value.bool true)) rfl) ?_; clear hT; intro a hT
  refine d_pure (i := 28) hT #[true, true, true, true, true, true, true, true, true, true, true, true, true, true, true, true, true, true, true, true, true, true, true, true, true, true, true, true, true, false, false, false, false, false, false, false, false, false, false, false, false, false, false, false, false, false, false, false, false, false, false, false, false, false, false] rfl (by kernel_rfl) rfl rfl (by decide) (fun _ _ _ h => h) (fun _ => q_move hT rfl) ?_; clear hT; intro a hT
  refine d_pure (i := 29) hT #[true, true, true, true, true, true, true, true, true, true, true, true, true, true, true, true, true, true, true, true, true, true, true, true, true, true, true, true, true, true, false, false, false, false, false, false, false, false, false, false, false, false, false, false, false, false, false, false, false, false, false, false, false, false, false] rfl (by kernel_rfl) rfl rfl (by decide) (fun _ _ _ h => h) (fun _ => q_move hT rfl) ?_; clear hT; intro a hT
  refine d_pure (i := 30) hT #[true, true, true, true, true, true, true, true, true, true, true, true, true, true, true, true, true, true, true, true, true, true, true, true, true, true, true, true, true, true, true, false, false, false, false, false, false, false, false, false, false, false, false, false, false, false, false, false, false, false, false, false, false, false, false] rfl (by kernel_rfl) rfl rfl (by decide) (fun _ _ _ h => h) (fun _ => (q_eql hT rfl rfl).b (b := true) rfl) ?_; clear hT; intro a hT
  refine d_pure (i := 31) hT #[true, true, true, true, true, true, true, true, true, true, true, true, true, true, true, true, true, true, true, true, true, true, true, true, true, true, true, true, true, true, true, true, false, false, false, false, false, false, false, false, false, false, false, false, false, false, false, false, false, false, false, false, false, false, false] rfl (by kernel_rfl) rfl rfl (by decide) (fun _ _ _ h => h) (fun _ => (q_pick hT rfl rfl rfl).v (v := (Value.bool true)) rfl) ?_; clear hT; intro a hT
  refine d_pure (i := 32) hT #[true, true, true, true, true, true, true, true, true, true, true, true, true, true, true, true, true, true, true, true, true, true, true, true, true, true, true, true, true, true, true, true, true, false, false, false, false, false, false, false, false, false, false, false, false, false, false, false, false, false, false, false, false, false, false] rfl (by kernel_rfl) rfl rfl (by decide) (fun _ _ _ h => h) (fun _ => q_move hT rfl) ?_; clear hT; intro a hT
  refine d_pure (i := 33) hT #[true, true, true, true, true, true, true, true, true, true, true, true, true, true, true, true, true, true, true, true, true, true, true, true, true, true, true, true, true, true, true, true, true, true, false, false, false, false, false, false, false, false, false, false, false, false, false, false, false, false, false, false, false, false, false] rfl (by kernel_rfl) rfl rfl (by decide) (fun _ _ _ h => h) (fun _ => q_fieldAddr hT rfl Tryz.fld26_0 rfl) ?_; clear hT; intro a hT
  refine d_take (i := 34) hT #[true, true, true, true, true, true, true, true, true, true, true, true, true, true, true, true, true, true, true, true, true, true, true, true, true, true, true, true, true, true, true, true, true, true, true, false, false, false, false, false, false, false, false, false, false, false, false, false, false, false, false, false, false, false, false] rfl (by kernel_rfl) rfl rfl (by decide) (fun _ _ _ h => h) (fun _ hs => q_load hT rfl Tryz.ty4 (Rd.ext (hR.rd 1 rfl 0 (ds := [(Value.bool false)]) rfl) hs)) hS ?_; clear hT; intro a hT
  refine d_pure (i := 35) hT #[true, true, true, true, true, true, true, true, true, true, true, true, true, true, true, true, true, true, true, true, true, true, true, true, true, true, true, true, true, true, true, true, true, true, true, true, false, false, false, false, false, false, false, false, false, false, false, false, false, false, false, false, false, false, false] rfl (by kernel_rfl) rfl rfl (by decide) (fun _ _ _ h => h) (fun _ => (q_not hT rfl).b rfl) ?_; clear hT; intro a hT
  refine d_pure (i := 36) hT #[true, true, true, true, true, true, true, true, true, true, true, true, true, true, true, true, true, true, true, true, true, true, true, true, true, true, true, true, true, true, true, true, true, true, true, true, true, false, false, false, false, false, false, false, false, false, false, false, false, false, false, false, false, false, false] rfl (by kernel_rfl) rfl rfl (by decide) (fun _ _ _ h => h) (fun _ => (q_pick hT rfl rfl rfl).v (v := (Value.bool true)) rfl) ?_; clear hT; intro a hT
  refine d_pure (i := 37) hT #[true, true, true, true, true, true, true, true, true, true, true, true, true, true, true, true, true, true, true, true, true, true, true, true, true, true, true, true, true, true, true, true, true, true, true, true, true, true, false, false, false, false, false, false, false, false, false, false, false, false, false, false, false, false, false] rfl (by kernel_rfl) rfl rfl (by decide) (fun _ _ _ h => h) (fun _ => q_move hT rfl) ?_; clear hT; intro a hT
  refine d_pure (i := 38) hT #[true, true, true, true, true, true, true, true, true, true, true, true, true, true, true, true, true, true, true, true, true, true, true, true, true, true, true, true, true, true, true, true, true, true, true, true, true, true, true, false, false, false, false, false, false, false, false, false, false, false, false, false, false, false, false] rfl (by kernel_rfl) rfl rfl (by decide) (fun _ _ _ h => h) (fun _ => q_fieldAddr hT rfl Tryz.fld29_1 rfl) ?_; clear hT; intro a hT
  refine d_take (i := 39) hT #[true, true, true, true, true, true, true, true, true, true, true, true, true, true, true, true, true, true, true, true, true, true, true, true, true, true, true, true, true, true, true, true, true, true, true, true, true, true, true, true, false, false, false, false, false, false, false, false, false, false, false, false, false, false, false] rfl (by kernel_rfl) rfl rfl (by decide) (fun _ _ _ h => h) (fun _ hs => q_load hT rfl Tryz.ty4 (Rd.ext (hR.rd 0 rfl 1 (ds := [(Value.bool true)]) rfl) hs)) hS ?_; clear hT; intro a hT
  refine d_pure (i := 40) hT #[true, true, true, true, true, true, true, true, true, true, true, true, true, true, true, true, true, true, true, true, true, true, true, true, true, true, true, true, true, true, true, true, true, true, true, true, true, true, true, true, true, false, false, false, false, false, false, false, false, false, false, false, false, false, false] rfl (by kernel_rfl) rfl rfl (by decide) (fun _ _ _ h => h) (fun _ => (q_pick hT rfl rfl rfl).v (v := (Value.bool true)) rfl) ?_; clear hT; intro a hT
  refine d_pure (i := 41) hT #[true, true, true, true, true, true, true, true, true, true, true, true, true, true, true, true, true, true, true, true, true, true, true, true, true, true, true, true, true, true, true, true, true, true, true, true, true, true, true, true, true, true, false, false, false, false, false, false, false, false, false, false, false, false, false] rfl (by kernel_rfl) rfl rfl (by decide) (fun _ _ _ h => h) (fun _ => q_move hT rfl) ?_; clear hT; intro a hT
  refine d_pure (i := 42) hT #[true, true, true, true, true, true, true, true, true, true, true, true, true, true, true, true, true, true, true, true, true, true, true, true, true, true, true, true, true, true, true, true, true, true, true, true, true, true, true, true, true, true, true, false, false, false, false, false, false, false, false, false, false, false, false] rfl (by kernel_rfl) rfl rfl (by decide) (fun _ _ _ h => h) (fun _ => q_fieldAddr hT rfl Tryz.fld29_2 rfl) ?_; clear hT; intro a hT
  refine d_take (i := 43) hT #[true, true, true, true, true, true, true, true, true, true, true, true, true, true, true, true, true, true, true, true, true, true, true, true, true, true, true, true, true, true, true, true, true, true, true, true, true, true, true, true, true, true, true, true, false, false, false, false, false, false, false, false, false, false, false] rfl (by kernel_rfl) rfl rfl (by decide) (fun _ _ _ h => h) (fun _ hs => q_load_agg hT rfl Tryz.ty24 (Rd.ext (hR.rd 0 rfl 2 (ds := digC aL.p) rfl) hs) rfl) hS ?_; clear hT; intro a hT
  refine d_one (i := 44) hT #[true, true, true, true, true, true, true, true, true, true, true, true, true, true, true, true, true, true, true, true, true, true, true, true, true, true, true, true, true, true, true, true, true, true, true, true, true, true, true, true, true, true, true, true, true, false, false, false, false, false, false, false, false, false, false] rfl (by kernel_rfl) rfl ?_
  refine w_callT (xs := []) hT rfl (vs := []) rfl (args := #[]) rfl Tryz.func41 rfl rfl (by decide) ((law06a_spec _).mono ?_)
  rintro e w22 ⟨rfl, hX⟩
  refine ⟨_, rfl, ?_⟩; clear hT; intro a hT; replace hT : Tm 80 a ((70, (Value.agg (digC aL.p ++ (digC aL.v)).toArray)) :: _) := hT
  replace hL := hL.ext hX
  replace hS := Vg.Loc.ext hS hX; refine ⟨fun _ => hS, ?_⟩
  refine d_pure (i := 45) hT #[true, true, true, true, true, true, true, true, true, true, true, true, true, true, true, true, true, true, true, true, true, true, true, true, true, true, true, true, true, true, true, true, true, true, true, true, true, true, true, true, true, true, true, true, true, true, false, false, false, false, false, false, false, false, false] rfl (by kernel_rfl) rfl rfl (by decide) (fun _ _ _ h => h) (fun _ => q_field_agg (cs := digC aL.p ++ (digC aL.v)) (ds := digC aL.p) hT rfl Tryz.fld85_0 rfl) ?_; clear hT; intro a hT
  refine d_pure (i := 46) hT #[true, true, true, true, true, true, true, true, true, true, true, true, true, true, true, true, true, true, true, true, true, true, true, true, true, true, true, true, true, true, true, true, true, true, true, true, true, true, true, true, true, true, true, true, true, true, true, false, false, false, false, false, false, false, false] rfl (by kernel_rfl) rfl rfl (by decide) (fun _ _ _ h => h) (fun _ => (q_eq_agg hT rfl rfl Tryz.eqg24 (EqR.dig Tryz.arr24 Tryz.underlying5 aL.p aL.p) (by decide)).b (b := true) (by simp)) ?_; clear hT; intro a hT
  refine d_pure (i := 47) hT #[true, true, true, true, true, true, true, true, true, true, true, true, true, true, true, true, true, true, true, true, true, true, true, true, true, true, true, true, true, true, true, true, true, true, true, true, true, true, true, true, true, true, true, true, true, true, true, true, false, false, false, false, false, false, false] rfl (by kernel_rfl) rfl rfl (by decide) (fun _ _ _ h => h) (fun _ => (q_pick hT rfl rfl rfl).v (v := (Value.bool true)) rfl) ?_; clear hT; intro a hT
  refine d_pure (i := 48) hT #[true, true, true, true, true, true, true, true, true, true, true, true, true, true, true, true, true, true, true, true, true, true, true, true, true, true, true, true, true, true, true, true, true, true, true, true, true, true, true, true, true, true, true, true, true, true, true, true, true, false, false, false, false, false, false] rfl (by kernel_rfl) rfl rfl (by decide) (fun _ _ _ h => h) (fun _ => q_move hT rfl) ?_; clear hT; intro a hT
  refine d_pure (i := 49) hT #[true, true, true, true, true, true, true, true, true, true, true, true, true, true, true, true, true, true, true, true, true, true, true, true, true, true, true, true, true, true, true, true, true, true, true, true, true, true, true, true, true, true, true, true, true, true, true, true, true, true, false, false, false, false, false] rfl (by kernel_rfl) rfl rfl (by decide) (fun _ _ _ h => h) (fun _ => q_fieldAddr hT rfl Tryz.fld29_0 rfl) ?_; clear hT; intro a hT
  refine d_take (i := 50) hT #[true, true, true, true, true, true, true, true, true, true, true, true, true, true, true, true, true, true, true, true, true, true, true, true, true, true, true, true, true, true, true, true, true, true, true, true, true, true, true, true, true, true, true, true, true, true, true, true, true, true, true, false, false, false, false] rfl (by kernel_rfl) rfl rfl (by decide) (fun _ _ _ h => h) (fun _ hs => q_load hT rfl Tryz.ty27 (Rd.ext (hR.rd 0 rfl 0 (ds := [(Value.slice ps1 0 cps2)]) rfl) hs)) hS ?_; clear hT; intro a hT
  refine d_pure (i := 51) hT #[true, true, true, true, true, true, true, true, true, true, true, true, true, true, true, true, true, true, true, true, true, true, true, true, true, true, true, true, true, true, true, true, true, true, true, true, true, true, true, true, true, true, true, true, true, true, true, true, true, true, true, true, false, false, false] rfl (by kernel_rfl) rfl rfl (by decide) (fun _ _ _ h => h) (fun _ => q_len_slice hT rfl Tryz.underlying27) ?_; clear hT; intro a hT
  refine d_pure (i := 52) hT #[true, true, true, true, true, true, true, true, true, true, true, true, true, true, true, true, true, true, true, true, true, true, true, true, true, true, true, true, true, true, true, true, true, true, true, true, true, true, true, true, true, true, true, true, true, true, true, true, true, true, true, true, true, false, false] rfl (by kernel_rfl) rfl rfl (by decide) (fun _ _ _ h => h) (fun _ => (q_eql hT rfl rfl).b (b := true) rfl) ?_; clear hT; intro a hT
  refine d_pure (i := 53) hT #[true, true, true, true, true, true, true, true, true, true, true, true, true, true, true, true, true, true, true, true, true, true, true, true, true, true, true, true, true, true, true, true, true, true, true, true, true, true, true, true, true, true, true, true, true, true, true, true, true, true, true, true, true, true, false] rfl (by kernel_rfl) rfl rfl (by decide) (fun _ _ _ h => h) (fun _ => (q_pick hT rfl rfl rfl).v (v := (Value.bool true)) rfl) ?_; clear hT; intro a hT
  refine d_pure (i := 54) hT #[true, true, true, true, true, true, true, true, true, true, true, true, true, true, true, true, true, true, true, true, true, true, true, true, true, true, true, true, true, true, true, true, true, true, true, true, true, true, true, true, true, true, true, true, true, true, true, true, true, true, true, true, true, true, true] rfl (by kernel_rfl) rfl rfl (by decide) (fun _ _ _ h => h) (fun _ => q_assign hT rfl) ?_; clear hT; intro a hT
  refine d_done (by kernel_rfl) ?_; clear hR hS
  refine then_norm ?_
  refine wp_ret ?_
  refine c_ret (vs := [(Value.bool true)]) (rs := [.tmp 0]) hT rfl (.tmp rfl .nil) ?_
  exact ⟨rfl, hL.drop⟩
end Go.Proofs.YtcaffacganffjaaGreatDoor
end

section
namespace Go.Proofs.YtcaffacganffjaaGreatDoor
open Go Go.Vg


set_option maxRecDepth 100000 in
set_option maxHeartbeats 4000000 in
theorem pm_arg (w : Int) (ls : List Leaf) (p : Option Addr) (len cap : Nat) (pt : Dig) (hl : 200 < len) (hw : widthB w = false) (w0 : World) (hK : KeysAt w0) (hK2 : Key2At w0) (hsl : SlT w0 p len 64 leafC noLeaf ls) :
    Calls Tryz.prog 3 #[(vI w), (Value.slice p len cap), (Value.agg (digC pt).toArray)] w0 fun e w' => e = .returned (.bool true) ∧ Ext w0 w' := by
  refine c_enter (n := 74) (args := [(vI w), (Value.slice p len cap), (Value.agg (digC pt).toArray)]) Tryz.func3 rfl rfl (Nat.le_of_ble_eq_true rfl) rfl (fun a hT => ?_)
  simp only [List.zipIdx_cons, List.zipIdx_nil, List.map_cons, List.map_nil, Nat.reduceAdd] at hT
  have hL := Vg.Loc.refl [] w0
  have hlen : ls.length = len := hsl.1
  have he1 : rootE w ls = 1 := by simp [rootE, hw, hlen]
  refine c_seq ?_
  refine c_region ?_
  refine l_do rfl ?_
  refine w_box hT hL (by decide) rfl (c := digC pt) rfl ?_; clear hT hL; intro b1 a w1 hT hL hE hB
  refine l_q hT (q_assign hT rfl) rfl rfl (by decide) ?_; clear hT; intro a hT
  refine l_end ?_
  refine then_norm ?_
  refine c_seq ?_
  refine c_seq ?_
  refine c_region ?_
  refine l_q hT (q_move hT rfl) rfl rfl (by decide) ?_; clear hT; intro a hT
  refine l_q hT (q_len_slice hT rfl Tryz.underlying22) rfl rfl (by decide) ?_; clear hT; intro a hT
  refine l_q hT ((q_gtr hT rfl rfl).b (c := decide (200 < (len : Int))) (b := true) (decide_eq_true (by omega))) rfl rfl (by decide) ?_; clear hT; intro a hT
  refine l_end ?_
  refine then_norm ?_
  refine c_true hT rfl rfl ?_
  refine c_seq ?_
  refine c_region ?_
  refine l_q hT (q_move hT rfl) rfl rfl (by decide) ?_; clear hT; intro a hT
  refine l_q hT (q_move hT rfl) rfl rfl (by decide) ?_; clear hT; intro a hT
  refine l_q hT (q_load_agg hT rfl Tryz.ty24 (hL.rd 0 rfl 0 (ds := digC pt) rfl) rfl) rfl rfl (by decide) ?_; clear hT; intro a hT
  refine l_do rfl ?_
  refine w_callT (xs := [.tmp 21, .tmp 22, .tmp 23]) hT rfl (vs := [(vI w), (Value.slice p len cap), (Value.agg (digC pt).toArray)]) rfl (args := #[(vI w), (Value.slice p len cap), (Value.agg (digC pt).toArray)]) rfl Tryz.func11 rfl rfl (by decide) ((make_err w ls p len cap pt (by rw [he1]; decide) _ (KeysAt.of hK hL (by simp)) (hsl.ext hL)).mono ?_)
  rintro e w2 ⟨rfl, hX⟩
  refine ⟨_, rfl, ?_⟩; clear hT; intro a hT; replace hT : Tm 74 a ((24, (Value.tuple #[(Value.agg ([(Value.bool false)] ++ (digC Dig.zero)).toArray), (Value.agg ([(Value.slice none 0 0), (Value.bool false)] ++ (digC Dig.zero ++ (digC Dig.zero))).toArray), (vI (rootE w ls))])) :: _) := hT
  replace hL := hL.ext hX
  rw [he1] at hT
  refine l_q hT (q_move hT rfl) rfl rfl (by decide) ?_; clear hT; intro a hT
  refine l_q hT (q_extract hT rfl rfl) rfl rfl (by decide) ?_; clear hT; intro a hT
  refine l_q hT (q_extract hT rfl rfl) rfl rfl (by decide) ?_; clear hT; intro a hT
  refine l_q hT (q_extract hT rfl rfl) rfl rfl (by decide) ?_; clear hT; intro a hT
  refine l_do rfl ?_
  refine w_alloc hT hL (by decide) Tryz.ty26 ?_; clear hT hL; intro b2 a w3 hT hL hE hB
  refine l_do rfl ?_
  refine w_alloc hT hL (by decide) Tryz.ty29 ?_; clear hT hL; intro b3 a w4 hT hL hE hB
  refine l_do rfl ?_
  refine w_store hT hL 1 (c := [(Value.bool false)] ++ (digC Dig.zero)) rfl rfl Tryz.ty26 rfl (vs := [(Value.bool false)] ++ (digC Dig.zero)) rfl rfl (by first | decide | (simp [arr32_len, arr8_len, digC_len]; done) | (simp [arr32_len, arr8_len, digC_len]; omega)) rfl (c' := [(Value.bool false)] ++ (digC Dig.zero)) rfl ?_; clear hL; intro w5 hL hE
  replace hL : Vg.Loc [] w0 w5 ([[(b3, ob ([(Value.slice none 0 0), (Value.bool false)] ++ (digC Dig.zero ++ (digC Dig.zero))) 29)], [(b2, ob ([(Value.bool false)] ++ (digC Dig.zero)) 26)], [(b1, ob (digC pt) 24)]]) := hL
  refine l_do rfl ?_
  refine w_store hT hL 0 (c := [(Value.slice none 0 0), (Value.bool false)] ++ (digC Dig.zero ++ (digC Dig.zero))) rfl rfl Tryz.ty29 rfl (vs := [(Value.slice none 0 0), (Value.bool false)] ++ (digC Dig.zero ++ (digC Dig.zero))) rfl rfl (by first | decide | (simp [arr32_len, arr8_len, digC_len]; done) | (simp [arr32_len, arr8_len, digC_len]; omega)) rfl (c' := [(Value.slice none 0 0), (Value.bool false)] ++ (digC Dig.zero ++ (digC Dig.zero))) rfl ?_; clear hL; intro w6 hL hE
  replace hL : Vg.Loc [] w0 w6 ([[(b3, ob ([(Value.slice none 0 0), (Value.bool false)] ++ (digC Dig.zero ++ (digC Dig.zero))) 29)], [(b2, ob ([(Value.bool false)] ++ (digC Dig.zero)) 26)], [(b1, ob (digC pt) 24)]]) := hL
  refine l_q hT (q_assign hT rfl) rfl rfl (by decide) ?_; clear hT; intro a hT
  refine l_end ?_
  refine then_norm ?_
  refine c_seq ?_
  refine c_region ?_
  refine l_q hT (q_assign hT rfl) rfl rfl (by decide) ?_; clear hT; intro a hT
  refine l_end ?_
  refine then_norm ?_
  refine c_seq ?_
  refine c_seq ?_
  refine c_region ?_
  refine l_q hT (q_move hT rfl) rfl rfl (by decide) ?_; clear hT; intro a hT
  refine l_do rfl ?_
  refine w_callT (xs := [.tmp 28]) hT rfl (vs := [(vI w)]) rfl (args := #[(vI w)]) rfl Tryz.func12 rfl rfl (by decide) ((refWidth_spec (w) _).mono ?_)
  rintro e w7 ⟨rfl, hX⟩
  refine ⟨_, rfl, ?_⟩; clear hT; intro a hT; replace hT : Tm 74 a ((29, (Value.bool (widthB w))) :: _) := hT
  replace hL := hL.ext hX
  rw [hw] at hT
  refine l_q hT ((q_not hT rfl).b rfl) rfl rfl (by decide) ?_; clear hT; intro a hT
  refine l_end ?_
  refine then_norm ?_
  refine c_true hT rfl rfl ?_
  refine c_region ?_
  refine l_q hT (q_assign hT rfl) rfl rfl (by decide) ?_; clear hT; intro a hT
  refine l_end ?_
  refine then_norm ?_
  refine c_seq ?_
  refine c_region ?_
  refine l_do rfl ?_
  refine w_callT (xs := []) hT rfl (vs := []) rfl (args := #[]) rfl Tryz.func14 rfl rfl (by decide) ((makes_spec _ (hK.of hL (by simp))).mono ?_)
  rintro e w8 ⟨rfl, hX⟩
  refine ⟨_, rfl, ?_⟩; clear hT; intro a hT; replace hT : Tm 74 a ((36, (Value.bool true)) :: _) := hT
  replace hL := hL.ext hX
  refine l_q hT (q_move hT rfl) rfl rfl (by decide) ?_; clear hT; intro a hT
  refine l_on hT rfl rfl rfl rfl (w_q hT (q_move hT rfl) rfl (by decide) ?_); clear hT; intro a hT
  refine l_on hT rfl rfl rfl rfl (w_q hT (q_move hT rfl) rfl (by decide) ?_); clear hT; intro a hT
  refine l_on hT rfl rfl rfl rfl (w_q hT ((q_eql hT rfl rfl).b (b := true) rfl) rfl (by decide) ?_); clear hT; intro a hT
  refine l_q hT ((q_pick hT rfl rfl rfl).v (v := (Value.bool true)) rfl) rfl rfl (by decide) ?_; clear hT; intro a hT
  refine l_q hT (q_assign hT rfl) rfl rfl (by decide) ?_; clear hT; intro a hT
  refine l_end ?_
  refine then_norm ?_
  refine wp_ret ?_
  refine then_ret ?_
  refine c_ret (vs := [(Value.bool true)]) (rs := [.tmp 6]) hT rfl (.tmp rfl .nil) ?_
  exact ⟨rfl, hL.drop⟩

set_option maxRecDepth 100000 in
set_option maxHeartbeats 4000000 in
theorem pm_limit (w : Int) (ls : List Leaf) (p : Option Addr) (len cap : Nat) (pt : Dig) (hl : 200 < len) (hw : widthB w = true) (hc : 4096 < len) (w0 : World) (hK : KeysAt w0) (hK2 : Key2At w0) (hsl : SlT w0 p len 64 leafC noLeaf ls) :
    Calls Tryz.prog 3 #[(vI w), (Value.slice p len cap), (Value.agg (digC pt).toArray)] w0 fun e w' => e = .returned (.bool true) ∧ Ext w0 w' := by
  refine c_enter (n := 74) (args := [(vI w), (Value.slice p len cap), (Value.agg (digC pt).toArray)]) Tryz.func3 rfl rfl (Nat.le_of_ble_eq_true rfl) rfl (fun a hT => ?_)
  simp only [List.zipIdx_cons, List.zipIdx_nil, List.map_cons, List.map_nil, Nat.reduceAdd] at hT
  have hL := Vg.Loc.refl [] w0
  have hlen : ls.length = len := hsl.1
  have he1 : rootE w ls = 2 := by simp [rootE, hw, hlen]; omega
  refine c_seq ?_
  refine c_region ?_
  refine l_do rfl ?_
  refine w_box hT hL (by decide) rfl (c := digC pt) rfl ?_; clear hT hL; intro b1 a w1 hT hL hE hB
  refine l_q hT (q_assign hT rfl) rfl rfl (by decide) ?_; clear hT; intro a hT
  refine l_end ?_
  refine then_norm ?_
  refine c_seq ?_
  refine c_seq ?_
  refine c_region ?_
  refine l_q hT (q_move hT rfl) rfl rfl (by decide) ?_; clear hT; intro a hT
  refine l_q hT (q_len_slice hT rfl Tryz.underlying22) rfl rfl (by decide) ?_; clear hT; intro a hT
  refine l_q hT ((q_gtr hT rfl rfl).b (c := decide (200 < (len : Int))) (b := true) (decide_eq_true (by omega))) rfl rfl (by decide) ?_; clear hT; intro a hT
  refine l_end ?_
  refine then_norm ?_
  refine c_true hT rfl rfl ?_
  refine c_seq ?_
  refine c_region ?_
  refine l_q hT (q_move hT rfl) rfl rfl (by decide) ?_; clear hT; intro a hT
  refine l_q hT (q_move hT rfl) rfl rfl (by decide) ?_; clear hT; intro a hT
  refine l_q hT (q_load_agg hT rfl Tryz.ty24 (hL.rd 0 rfl 0 (ds := digC pt) rfl) rfl) rfl rfl (by decide) ?_; clear hT; intro a hT
  refine l_do rfl ?_
  refine w_callT (xs := [.tmp 21, .tmp 22, .tmp 23]) hT rfl (vs := [(vI w), (Value.slice p len cap), (Value.agg (digC pt).toArray)]) rfl (args := #[(vI w), (Value.slice p len cap), (Value.agg (digC pt).toArray)]) rfl Tryz.func11 rfl rfl (by decide) ((make_err w ls p len cap pt (by rw [he1]; decide) _ (KeysAt.of hK hL (by simp)) (hsl.ext hL)).mono ?_)
  rintro e w2 ⟨rfl, hX⟩
  refine ⟨_, rfl, ?_⟩; clear hT; intro a hT; replace hT : Tm 74 a ((24, (Value.tuple #[(Value.agg ([(Value.bool false)] ++ (digC Dig.zero)).toArray), (Value.agg ([(Value.slice none 0 0), (Value.bool false)] ++ (digC Dig.zero ++ (digC Dig.zero))).toArray), (vI (rootE w ls))])) :: _) := hT
  replace hL := hL.ext hX
  rw [he1] at hT
  refine l_q hT (q_move hT rfl) rfl rfl (by decide) ?_; clear hT; intro a hT
  refine l_q hT (q_extract hT rfl rfl) rfl rfl (by decide) ?_; clear hT; intro a hT
  refine l_q hT (q_extract hT rfl rfl) rfl rfl (by decide) ?_; clear hT; intro a hT
  refine l_q hT (q_extract hT rfl rfl) rfl rfl (by decide) ?_; clear hT; intro a hT
  refine l_do rfl ?_
  refine w_alloc hT hL (by decide) Tryz.ty26 ?_; clear hT hL; intro b2 a w3 hT hL hE hB
  refine l_do rfl ?_
  refine w_alloc hT hL (by decide) Tryz.ty29 ?_; clear hT hL; intro b3 a w4 hT hL hE hB
  refine l_do rfl ?_
  refine w_store hT hL 1 (c := [(Value.bool false)] ++ (digC Dig.zero)) rfl rfl Tryz.ty26 rfl (vs := [(Value.bool false)] ++ (digC Dig.zero)) rfl rfl (by first | decide | (simp [arr32_len, arr8_len, digC_len]; done) | (simp [arr32_len, arr8_len, digC_len]; omega)) rfl (c' := [(Value.bool false)] ++ (digC Dig.zero)) rfl ?_; clear hL; intro w5 hL hE
  replace hL : Vg.Loc [] w0 w5 ([[(b3, ob ([(Value.slice none 0 0), (Value.bool false)] ++ (digC Dig.zero ++ (digC Dig.zero))) 29)], [(b2, ob ([(Value.bool false)] ++ (digC Dig.zero)) 26)], [(b1, ob (digC pt) 24)]]) := hL
  refine l_do rfl ?_
  refine w_store hT hL 0 (c := [(Value.slice none 0 0), (Value.bool false)] ++ (digC Dig.zero ++ (digC Dig.zero))) rfl rfl Tryz.ty29 rfl (vs := [(Value.slice none 0 0), (Value.bool false)] ++ (digC Dig.zero ++ (digC Dig.zero))) rfl rfl (by first | decide | (simp [arr32_len, arr8_len, digC_len]; done) | (simp [arr32_len, arr8_len, digC_len]; omega)) rfl (c' := [(Value.slice none 0 0), (Value.bool false)] ++ (digC Dig.zero ++ (digC Dig.zero))) rfl ?_; clear hL; intro w6 hL hE
  replace hL : Vg.Loc [] w0 w6 ([[(b3, ob ([(Value.slice none 0 0), (Value.bool false)] ++ (digC Dig.zero ++ (digC Dig.zero))) 29)], [(b2, ob ([(Value.bool false)] ++ (digC Dig.zero)) 26)], [(b1, ob (digC pt) 24)]]) := hL
  refine l_q hT (q_assign hT rfl) rfl rfl (by decide) ?_; clear hT; intro a hT
  refine l_end ?_
  refine then_norm ?_
  refine c_seq ?_
  refine c_region ?_
  refine l_q hT (q_assign hT rfl) rfl rfl (by decide) ?_; clear hT; intro a hT
  refine l_end ?_
  refine then_norm ?_
  refine c_seq ?_
  refine c_seq ?_
  refine c_region ?_
  refine l_q hT (q_move hT rfl) rfl rfl (by decide) ?_; clear hT; intro a hT
  refine l_do rfl ?_
  refine w_callT (xs := [.tmp 28]) hT rfl (vs := [(vI w)]) rfl (args := #[(vI w)]) rfl Tryz.func12 rfl rfl (by decide) ((refWidth_spec (w) _).mono ?_)
  rintro e w7 ⟨rfl, hX⟩
  refine ⟨_, rfl, ?_⟩; clear hT; intro a hT; replace hT : Tm 74 a ((29, (Value.bool (widthB w))) :: _) := hT
  replace hL := hL.ext hX
  rw [hw] at hT
  refine l_q hT ((q_not hT rfl).b rfl) rfl rfl (by decide) ?_; clear hT; intro a hT
  refine l_end ?_
  refine then_norm ?_
  refine c_false hT rfl rfl ?_
  refine c_seq ?_
  refine c_region ?_
  refine l_q hT (q_move hT rfl) rfl rfl (by decide) ?_; clear hT; intro a hT
  refine l_q hT (q_len_slice hT rfl Tryz.underlying22) rfl rfl (by decide) ?_; clear hT; intro a hT
  refine l_q hT ((q_gtr hT rfl rfl).b (c := decide (4096 < (len : Int))) (b := true) (decide_eq_true (by omega))) rfl rfl (by decide) ?_; clear hT; intro a hT
  refine l_end ?_
  refine then_norm ?_
  refine c_true hT rfl rfl ?_
  refine c_region ?_
  refine l_q hT (q_assign hT rfl) rfl rfl (by decide) ?_; clear hT; intro a hT
  refine l_end ?_
  refine then_norm ?_
  refine c_seq ?_
  refine c_region ?_
  refine l_do rfl ?_
  refine w_callT (xs := []) hT rfl (vs := []) rfl (args := #[]) rfl Tryz.func14 rfl rfl (by decide) ((makes_spec _ (hK.of hL (by simp))).mono ?_)
  rintro e w8 ⟨rfl, hX⟩
  refine ⟨_, rfl, ?_⟩; clear hT; intro a hT; replace hT : Tm 74 a ((36, (Value.bool true)) :: _) := hT
  replace hL := hL.ext hX
  refine l_q hT (q_move hT rfl) rfl rfl (by decide) ?_; clear hT; intro a hT
  refine l_on hT rfl rfl rfl rfl (w_q hT (q_move hT rfl) rfl (by decide) ?_); clear hT; intro a hT
  refine l_on hT rfl rfl rfl rfl (w_q hT (q_move hT rfl) rfl (by decide) ?_); clear hT; intro a hT
  refine l_on hT rfl rfl rfl rfl (w_q hT ((q_eql hT rfl rfl).b (b := true) rfl) rfl (by decide) ?_); clear hT; intro a hT
  refine l_q hT ((q_pick hT rfl rfl rfl).v (v := (Value.bool true)) rfl) rfl rfl (by decide) ?_; clear hT; intro a hT
  refine l_q hT (q_assign hT rfl) rfl rfl (by decide) ?_; clear hT; intro a hT
  refine l_end ?_
  refine then_norm ?_
  refine wp_ret ?_
  refine then_ret ?_
  refine c_ret (vs := [(Value.bool true)]) (rs := [.tmp 6]) hT rfl (.tmp rfl .nil) ?_
  exact ⟨rfl, hL.drop⟩

set_option maxRecDepth 100000 in
set_option maxHeartbeats 4000000 in
theorem pm_twice (w : Int) (ls : List Leaf) (p : Option Addr) (len cap : Nat) (pt : Dig) (hl : 200 < len) (hw : widthB w = true) (hc : len ≤ 4096) (htt : twins ls = true) (w0 : World) (hK : KeysAt w0) (hK2 : Key2At w0) (hsl : SlT w0 p len 64 leafC noLeaf ls) :
    Calls Tryz.prog 3 #[(vI w), (Value.slice p len cap), (Value.agg (digC pt).toArray)] w0 fun e w' => e = .returned (.bool true) ∧ Ext w0 w' := by
  refine c_enter (n := 74) (args := [(vI w), (Value.slice p len cap), (Value.agg (digC pt).toArray)]) Tryz.func3 rfl rfl (Nat.le_of_ble_eq_true rfl) rfl (fun a hT => ?_)
  simp only [List.zipIdx_cons, List.zipIdx_nil, List.map_cons, List.map_nil, Nat.reduceAdd] at hT
  have hL := Vg.Loc.refl [] w0
  have hlen : ls.length = len := hsl.1
  have he1 : rootE w ls = 30 := by simp [rootE, hw, hlen, htt]; omega
  refine c_seq ?_
  refine c_region ?_
  refine l_do rfl ?_
  refine w_box hT hL (by decide) rfl (c := digC pt) rfl ?_; clear hT hL; intro b1 a w1 hT hL hE hB
  refine l_q hT (q_assign hT rfl) rfl rfl (by decide) ?_; clear hT; intro a hT
  refine l_end ?_
  refine then_norm ?_
  refine c_seq ?_
  refine c_seq ?_
  refine c_region ?_
  refine l_q hT (q_move hT rfl) rfl rfl (by decide) ?_; clear hT; intro a hT
  refine l_q hT (q_len_slice hT rfl Tryz.underlying22) rfl rfl (by decide) ?_; clear hT; intro a hT
  refine l_q hT ((q_gtr hT rfl rfl).b (c := decide (200 < (len : Int))) (b := true) (decide_eq_true (by omega))) rfl rfl (by decide) ?_; clear hT; intro a hT
  refine l_end ?_
  refine then_norm ?_
  refine c_true hT rfl rfl ?_
  refine c_seq ?_
  refine c_region ?_
  refine l_q hT (q_move hT rfl) rfl rfl (by decide) ?_; clear hT; intro a hT
  refine l_q hT (q_move hT rfl) rfl rfl (by decide) ?_; clear hT; intro a hT
  refine l_q hT (q_load_agg hT rfl Tryz.ty24 (hL.rd 0 rfl 0 (ds := digC pt) rfl) rfl) rfl rfl (by decide) ?_; clear hT; intro a hT
  refine l_do rfl ?_
  refine w_callT (xs := [.tmp 21, .tmp 22, .tmp 23]) hT rfl (vs := [(vI w), (Value.slice p len cap), (Value.agg (digC pt).toArray)]) rfl (args := #[(vI w), (Value.slice p len cap), (Value.agg (digC pt).toArray)]) rfl Tryz.func11 rfl rfl (by decide) ((make_err w ls p len cap pt (by rw [he1]; decide) _ (KeysAt.of hK hL (by simp)) (hsl.ext hL)).mono ?_)
  rintro e w2 ⟨rfl, hX⟩
  refine ⟨_, rfl, ?_⟩; clear hT; intro a hT; replace hT : Tm 74 a ((24, (Value.tuple #[(Value.agg ([(Value.bool false)] ++ (digC Dig.zero)).toArray), (Value.agg ([(Value.slice none 0 0), (Value.bool false)] ++ (digC Dig.zero ++ (digC Dig.zero))).toArray), (vI (rootE w ls))])) :: _) := hT
  replace hL := hL.ext hX
  rw [he1] at hT
  refine l_q hT (q_move hT rfl) rfl rfl (by decide) ?_; clear hT; intro a hT
  refine l_q hT (q_extract hT rfl rfl) rfl rfl (by decide) ?_; clear hT; intro a hT
  refine l_q hT (q_extract hT rfl rfl) rfl rfl (by decide) ?_; clear hT; intro a hT
  refine l_q hT (q_extract hT rfl rfl) rfl rfl (by decide) ?_; clear hT; intro a hT
  refine l_do rfl ?_
  refine w_alloc hT hL (by decide) Tryz.ty26 ?_; clear hT hL; intro b2 a w3 hT hL hE hB
  refine l_do rfl ?_
  refine w_alloc hT hL (by decide) Tryz.ty29 ?_; clear hT hL; intro b3 a w4 hT hL hE hB
  refine l_do rfl ?_
  refine w_store hT hL 1 (c := [(Value.bool false)] ++ (digC Dig.zero)) rfl rfl Tryz.ty26 rfl (vs := [(Value.bool false)] ++ (digC Dig.zero)) rfl rfl (by first | decide | (simp [arr32_len, arr8_len, digC_len]; done) | (simp [arr32_len, arr8_len, digC_len]; omega)) rfl (c' := [(Value.bool false)] ++ (digC Dig.zero)) rfl ?_; clear hL; intro w5 hL hE
  replace hL : Vg.Loc [] w0 w5 ([[(b3, ob ([(Value.slice none 0 0), (Value.bool false)] ++ (digC Dig.zero ++ (digC Dig.zero))) 29)], [(b2, ob ([(Value.bool false)] ++ (digC Dig.zero)) 26)], [(b1, ob (digC pt) 24)]]) := hL
  refine l_do rfl ?_
  refine w_store hT hL 0 (c := [(Value.slice none 0 0), (Value.bool false)] ++ (digC Dig.zero ++ (digC Dig.zero))) rfl rfl Tryz.ty29 rfl (vs := [(Value.slice none 0 0), (Value.bool false)] ++ (digC Dig.zero ++ (digC Dig.zero))) rfl rfl (by first | decide | (simp [arr32_len, arr8_len, digC_len]; done) | (simp [arr32_len, arr8_len, digC_len]; omega)) rfl (c' := [(Value.slice none 0 0), (Value.bool false)] ++ (digC Dig.zero ++ (digC Dig.zero))) rfl ?_; clear hL; intro w6 hL hE
  replace hL : Vg.Loc [] w0 w6 ([[(b3, ob ([(Value.slice none 0 0), (Value.bool false)] ++ (digC Dig.zero ++ (digC Dig.zero))) 29)], [(b2, ob ([(Value.bool false)] ++ (digC Dig.zero)) 26)], [(b1, ob (digC pt) 24)]]) := hL
  refine l_q hT (q_assign hT rfl) rfl rfl (by decide) ?_; clear hT; intro a hT
  refine l_end ?_
  refine then_norm ?_
  refine c_seq ?_
  refine c_region ?_
  refine l_q hT (q_assign hT rfl) rfl rfl (by decide) ?_; clear hT; intro a hT
  refine l_end ?_
  refine then_norm ?_
  refine c_seq ?_
  refine c_seq ?_
  refine c_region ?_
  refine l_q hT (q_move hT rfl) rfl rfl (by decide) ?_; clear hT; intro a hT
  refine l_do rfl ?_
  refine w_callT (xs := [.tmp 28]) hT rfl (vs := [(vI w)]) rfl (args := #[(vI w)]) rfl Tryz.func12 rfl rfl (by decide) ((refWidth_spec (w) _).mono ?_)
  rintro e w7 ⟨rfl, hX⟩
  refine ⟨_, rfl, ?_⟩; clear hT; intro a hT; replace hT : Tm 74 a ((29, (Value.bool (widthB w))) :: _) := hT
  replace hL := hL.ext hX
  rw [hw] at hT
  refine l_q hT ((q_not hT rfl).b rfl) rfl rfl (by decide) ?_; clear hT; intro a hT
  refine l_end ?_
  refine then_norm ?_
  refine c_false hT rfl rfl ?_
  refine c_seq ?_
  refine c_region ?_
  refine l_q hT (q_move hT rfl) rfl rfl (by decide) ?_; clear hT; intro a hT
  refine l_q hT (q_len_slice hT rfl Tryz.underlying22) rfl rfl (by decide) ?_; clear hT; intro a hT
  refine l_q hT ((q_gtr hT rfl rfl).b (c := decide (4096 < (len : Int))) (b := false) (decide_eq_false (by omega))) rfl rfl (by decide) ?_; clear hT; intro a hT
  refine l_end ?_
  refine then_norm ?_
  refine c_false hT rfl rfl ?_
  refine c_seq ?_
  refine c_region ?_
  refine l_q hT (q_move hT rfl) rfl rfl (by decide) ?_; clear hT; intro a hT
  refine l_do rfl ?_
  refine w_callT (xs := [.tmp 34]) hT rfl (vs := [(Value.slice p len cap)]) rfl (args := #[(Value.slice p len cap)]) rfl Tryz.func13 rfl rfl (by decide) ((refTwice_spec ls p len cap (by omega) _ (hsl.ext hL)).mono ?_)
  rintro e w8 ⟨rfl, hX⟩
  refine ⟨_, rfl, ?_⟩; clear hT; intro a hT; replace hT : Tm 74 a ((35, (Value.bool (twins ls))) :: _) := hT
  replace hL := hL.ext hX
  rw [htt] at hT
  refine l_end ?_
  refine then_norm ?_
  refine c_true hT rfl rfl ?_
  refine c_region ?_
  refine l_q hT (q_assign hT rfl) rfl rfl (by decide) ?_; clear hT; intro a hT
  refine l_end ?_
  refine then_norm ?_
  refine c_seq ?_
  refine c_region ?_
  refine l_do rfl ?_
  refine w_callT (xs := []) hT rfl (vs := []) rfl (args := #[]) rfl Tryz.func14 rfl rfl (by decide) ((makes_spec _ (hK.of hL (by simp))).mono ?_)
  rintro e w9 ⟨rfl, hX⟩
  refine ⟨_, rfl, ?_⟩; clear hT; intro a hT; replace hT : Tm 74 a ((36, (Value.bool true)) :: _) := hT
  replace hL := hL.ext hX
  refine l_q hT (q_move hT rfl) rfl rfl (by decide) ?_; clear hT; intro a hT
  refine l_on hT rfl rfl rfl rfl (w_q hT (q_move hT rfl) rfl (by decide) ?_); clear hT; intro a hT
  refine l_on hT rfl rfl rfl rfl (w_q hT (q_move hT rfl) rfl (by decide) ?_); clear hT; intro a hT
  refine l_on hT rfl rfl rfl rfl (w_q hT ((q_eql hT rfl rfl).b (b := true) rfl) rfl (by decide) ?_); clear hT; intro a hT
  refine l_q hT ((q_pick hT rfl rfl rfl).v (v := (Value.bool true)) rfl) rfl rfl (by decide) ?_; clear hT; intro a hT
  refine l_q hT (q_assign hT rfl) rfl rfl (by decide) ?_; clear hT; intro a hT
  refine l_end ?_
  refine then_norm ?_
  refine wp_ret ?_
  refine then_ret ?_
  refine c_ret (vs := [(Value.bool true)]) (rs := [.tmp 6]) hT rfl (.tmp rfl .nil) ?_
  exact ⟨rfl, hL.drop⟩

set_option maxRecDepth 100000 in
set_option maxHeartbeats 4000000 in
theorem pm_mok (w : Int) (ls : List Leaf) (p : Option Addr) (len cap : Nat) (pt : Dig) (hl : 200 < len) (hw : widthB w = true) (hc : len ≤ 4096) (htt : twins ls = false) (w0 : World) (hK : KeysAt w0) (hK2 : Key2At w0) (hsl : SlT w0 p len 64 leafC noLeaf ls) :
    Calls Tryz.prog 3 #[(vI w), (Value.slice p len cap), (Value.agg (digC pt).toArray)] w0 fun e w' => e = .returned (.bool true) ∧ Ext w0 w' := by
  refine c_enter (n := 74) (args := [(vI w), (Value.slice p len cap), (Value.agg (digC pt).toArray)]) Tryz.func3 rfl rfl (Nat.le_of_ble_eq_true rfl) rfl (fun a hT => ?_)
  simp only [List.zipIdx_cons, List.zipIdx_nil, List.map_cons, List.map_nil, Nat.reduceAdd] at hT
  have hL := Vg.Loc.refl [] w0
  have hlen : ls.length = len := hsl.1
  have he1 : rootE w ls = 0 := by simp [rootE, hw, hlen, htt]; omega
  have he : rootE w ls = 0 := he1
  refine c_seq ?_
  refine c_region ?_
  refine l_do rfl ?_
  refine w_box hT hL (by decide) rfl (c := digC pt) rfl ?_; clear hT hL; intro b1 a w1 hT hL hE hB
  refine l_q hT (q_assign hT rfl) rfl rfl (by decide) ?_; clear hT; intro a hT
  refine l_end ?_
  refine then_norm ?_
  refine c_seq ?_
  refine c_seq ?_
  refine c_region ?_
  refine l_q hT (q_move hT rfl) rfl rfl (by decide) ?_; clear hT; intro a hT
  refine l_q hT (q_len_slice hT rfl Tryz.underlying22) rfl rfl (by decide) ?_; clear hT; intro a hT
  refine l_q hT ((q_gtr hT rfl rfl).b (c := decide (200 < (len : Int))) (b := true) (decide_eq_true (by omega))) rfl rfl (by decide) ?_; clear hT; intro a hT
  refine l_end ?_
  refine then_norm ?_
  refine c_true hT rfl rfl ?_
  refine c_seq ?_
  refine c_region ?_
  refine l_q hT (q_move hT rfl) rfl rfl (by decide) ?_; clear hT; intro a hT
  refine l_q hT (q_move hT rfl) rfl rfl (by decide) ?_; clear hT; intro a hT
  refine l_q hT (q_load_agg hT rfl Tryz.ty24 (hL.rd 0 rfl 0 (ds := digC pt) rfl) rfl) rfl rfl (by decide) ?_; clear hT; intro a hT
  refine l_do rfl ?_
  refine w_callT (xs := [.tmp 21, .tmp 22, .tmp 23]) hT rfl (vs := [(vI w), (Value.slice p len cap), (Value.agg (digC pt).toArray)]) rfl (args := #[(vI w), (Value.slice p len cap), (Value.agg (digC pt).toArray)]) rfl Tryz.func11 rfl rfl (by decide) ((make_ok w ls p len cap pt (by omega) he _ (KeysAt.of hK hL (by simp)) (hsl.ext hL)).mono ?_)
  rintro e w2 ⟨ps, cps, cs, rfl, hX, hsib⟩
  refine ⟨_, rfl, ?_⟩; clear hT; intro a hT; replace hT : Tm 74 a ((24, (Value.tuple #[(Value.agg ([(Value.bool ((saysL pt (goL w pt 257 ls 0).2).1))] ++ (digC ((saysL pt (goL w pt 257 ls 0).2).2.1))).toArray), (Value.agg ([(Value.slice ps ((goL w pt 257 ls 0).1.length) cps), (Value.bool ((saysL pt (goL w pt 257 ls 0).2).2.2.1))] ++ (digC ((saysL pt (goL w pt 257 ls 0).2).2.2.2.1) ++ (digC ((saysL pt (goL w pt 257 ls 0).2).2.2.2.2)))).toArray), (vI 0)])) :: _) := hT
  replace hL : Vg.Loc [] w0 w2 ([cs, [(b1, ob (digC pt) 24)]]) := hL.exts hX
  refine l_q hT (q_move hT rfl) rfl rfl (by decide) ?_; clear hT; intro a hT
  refine l_q hT (q_extract hT rfl rfl) rfl rfl (by decide) ?_; clear hT; intro a hT
  refine l_q hT (q_extract hT rfl rfl) rfl rfl (by decide) ?_; clear hT; intro a hT
  refine l_q hT (q_extract hT rfl rfl) rfl rfl (by decide) ?_; clear hT; intro a hT
  refine l_do rfl ?_
  refine w_alloc hT hL (by decide) Tryz.ty26 ?_; clear hT hL; intro b2 a w3 hT hL hE hB
  refine l_do rfl ?_
  refine w_alloc hT hL (by decide) Tryz.ty29 ?_; clear hT hL; intro b3 a w4 hT hL hE hB
  refine l_do rfl ?_
  refine w_store hT hL 1 (c := [(Value.bool false)] ++ (digC Dig.zero)) rfl rfl Tryz.ty26 rfl (vs := [(Value.bool ((saysL pt (goL w pt 257 ls 0).2).1))] ++ (digC ((saysL pt (goL w pt 257 ls 0).2).2.1))) rfl rfl (by first | decide | (simp [arr32_len, arr8_len, digC_len]; done) | (simp [arr32_len, arr8_len, digC_len]; omega)) rfl (c' := [(Value.bool ((saysL pt (goL w pt 257 ls 0).2).1))] ++ (digC ((saysL pt (goL w pt 257 ls 0).2).2.1))) rfl ?_; clear hL; intro w5 hL hE
  replace hL : Vg.Loc [] w0 w5 ([[(b3, ob ([(Value.slice none 0 0), (Value.bool false)] ++ (digC Dig.zero ++ (digC Dig.zero))) 29)], [(b2, ob ([(Value.bool ((saysL pt (goL w pt 257 ls 0).2).1))] ++ (digC ((saysL pt (goL w pt 257 ls 0).2).2.1))) 26)], cs, [(b1, ob (digC pt) 24)]]) := hL
  refine l_do rfl ?_
  refine w_store hT hL 0 (c := [(Value.slice none 0 0), (Value.bool false)] ++ (digC Dig.zero ++ (digC Dig.zero))) rfl rfl Tryz.ty29 rfl (vs := [(Value.slice ps ((goL w pt 257 ls 0).1.length) cps), (Value.bool ((saysL pt (goL w pt 257 ls 0).2).2.2.1))] ++ (digC ((saysL pt (goL w pt 257 ls 0).2).2.2.2.1) ++ (digC ((saysL pt (goL w pt 257 ls 0).2).2.2.2.2)))) rfl rfl (by first | decide | (simp [arr32_len, arr8_len, digC_len]; done) | (simp [arr32_len, arr8_len, digC_len]; omega)) rfl (c' := [(Value.slice ps ((goL w pt 257 ls 0).1.length) cps), (Value.bool ((saysL pt (goL w pt 257 ls 0).2).2.2.1))] ++ (digC ((saysL pt (goL w pt 257 ls 0).2).2.2.2.1) ++ (digC ((saysL pt (goL w pt 257 ls 0).2).2.2.2.2)))) rfl ?_; clear hL; intro w6 hL hE
  replace hL : Vg.Loc [] w0 w6 ([[(b3, ob ([(Value.slice ps ((goL w pt 257 ls 0).1.length) cps), (Value.bool ((saysL pt (goL w pt 257 ls 0).2).2.2.1))] ++ (digC ((saysL pt (goL w pt 257 ls 0).2).2.2.2.1) ++ (digC ((saysL pt (goL w pt 257 ls 0).2).2.2.2.2)))) 29)], [(b2, ob ([(Value.bool ((saysL pt (goL w pt 257 ls 0).2).1))] ++ (digC ((saysL pt (goL w pt 257 ls 0).2).2.1))) 26)], cs, [(b1, ob (digC pt) 24)]]) := hL
  refine l_q hT (q_assign hT rfl) rfl rfl (by decide) ?_; clear hT; intro a hT
  refine l_end ?_
  refine then_norm ?_
  refine c_seq ?_
  refine c_region ?_
  refine l_q hT (q_assign hT rfl) rfl rfl (by decide) ?_; clear hT; intro a hT
  refine l_end ?_
  refine then_norm ?_
  refine c_seq ?_
  refine c_seq ?_
  refine c_region ?_
  refine l_q hT (q_move hT rfl) rfl rfl (by decide) ?_; clear hT; intro a hT
  refine l_do rfl ?_
  refine w_callT (xs := [.tmp 28]) hT rfl (vs := [(vI w)]) rfl (args := #[(vI w)]) rfl Tryz.func12 rfl rfl (by decide) ((refWidth_spec (w) _).mono ?_)
  rintro e w7 ⟨rfl, hX⟩
  refine ⟨_, rfl, ?_⟩; clear hT; intro a hT; replace hT : Tm 74 a ((29, (Value.bool (widthB w))) :: _) := hT
  replace hL := hL.ext hX
  rw [hw] at hT
  refine l_q hT ((q_not hT rfl).b rfl) rfl rfl (by decide) ?_; clear hT; intro a hT
  refine l_end ?_
  refine then_norm ?_
  refine c_false hT rfl rfl ?_
  refine c_seq ?_
  refine c_region ?_
  refine l_q hT (q_move hT rfl) rfl rfl (by decide) ?_; clear hT; intro a hT
  refine l_q hT (q_len_slice hT rfl Tryz.underlying22) rfl rfl (by decide) ?_; clear hT; intro a hT
  refine l_q hT ((q_gtr hT rfl rfl).b (c := decide (4096 < (len : Int))) (b := false) (decide_eq_false (by omega))) rfl rfl (by decide) ?_; clear hT; intro a hT
  refine l_end ?_
  refine then_norm ?_
  refine c_false hT rfl rfl ?_
  refine c_seq ?_
  refine c_region ?_
  refine l_q hT (q_move hT rfl) rfl rfl (by decide) ?_; clear hT; intro a hT
  refine l_do rfl ?_
  refine w_callT (xs := [.tmp 34]) hT rfl (vs := [(Value.slice p len cap)]) rfl (args := #[(Value.slice p len cap)]) rfl Tryz.func13 rfl rfl (by decide) ((refTwice_spec ls p len cap (by omega) _ (hsl.ext hL)).mono ?_)
  rintro e w8 ⟨rfl, hX⟩
  refine ⟨_, rfl, ?_⟩; clear hT; intro a hT; replace hT : Tm 74 a ((35, (Value.bool (twins ls))) :: _) := hT
  replace hL := hL.ext hX
  rw [htt] at hT
  refine l_end ?_
  refine then_norm ?_
  refine c_false hT rfl rfl ?_
  refine wp_skip ?_
  refine then_norm ?_
  refine c_seq ?_
  refine c_region ?_
  refine l_do rfl ?_
  refine w_callT (xs := []) hT rfl (vs := []) rfl (args := #[]) rfl Tryz.func14 rfl rfl (by decide) ((makes_spec _ (hK.of hL (by simp))).mono ?_)
  rintro e w9 ⟨rfl, hX⟩
  refine ⟨_, rfl, ?_⟩; clear hT; intro a hT; replace hT : Tm 74 a ((36, (Value.bool true)) :: _) := hT
  replace hL := hL.ext hX
  refine l_q hT (q_move hT rfl) rfl rfl (by decide) ?_; clear hT; intro a hT
  refine l_on hT rfl rfl rfl rfl (w_q hT (q_move hT rfl) rfl (by decide) ?_); clear hT; intro a hT
  refine l_on hT rfl rfl rfl rfl (w_q hT (q_move hT rfl) rfl (by decide) ?_); clear hT; intro a hT
  refine l_on hT rfl rfl rfl rfl (w_q hT ((q_eql hT rfl rfl).b (b := true) rfl) rfl (by decide) ?_); clear hT; intro a hT
  refine l_q hT ((q_pick hT rfl rfl rfl).v (v := (Value.bool true)) rfl) rfl rfl (by decide) ?_; clear hT; intro a hT
  refine l_q hT (q_assign hT rfl) rfl rfl (by decide) ?_; clear hT; intro a hT
  refine l_end ?_
  refine then_norm ?_
  refine wp_ret ?_
  refine then_ret ?_
  refine c_ret (vs := [(Value.bool true)]) (rs := [.tmp 6]) hT rfl (.tmp rfl .nil) ?_
  exact ⟨rfl, hL.drop⟩

set_option maxRecDepth 100000 in
set_option maxHeartbeats 4000000 in
theorem pm_err (w : Int) (ls : List Leaf) (p : Option Addr) (len cap : Nat) (pt : Dig) (hl : len ≤ 200) (he : rootE w ls ≠ 0) (w0 : World) (hK : KeysAt w0) (hK2 : Key2At w0) (hsl : SlT w0 p len 64 leafC noLeaf ls) :
    Calls Tryz.prog 3 #[(vI w), (Value.slice p len cap), (Value.agg (digC pt).toArray)] w0 fun e w' => e = .returned (.bool true) ∧ Ext w0 w' := by
  refine c_enter (n := 74) (args := [(vI w), (Value.slice p len cap), (Value.agg (digC pt).toArray)]) Tryz.func3 rfl rfl (Nat.le_of_ble_eq_true rfl) rfl (fun a hT => ?_)
  simp only [List.zipIdx_cons, List.zipIdx_nil, List.map_cons, List.map_nil, Nat.reduceAdd] at hT
  have hL := Vg.Loc.refl [] w0
  have hlen : ls.length = len := hsl.1
  refine c_seq ?_
  refine c_region ?_
  refine l_do rfl ?_
  refine w_box hT hL (by decide) rfl (c := digC pt) rfl ?_; clear hT hL; intro b1 a w1 hT hL hE hB
  refine l_q hT (q_assign hT rfl) rfl rfl (by decide) ?_; clear hT; intro a hT
  refine l_end ?_
  refine then_norm ?_
  refine c_seq ?_
  refine c_seq ?_
  refine c_region ?_
  refine l_q hT (q_move hT rfl) rfl rfl (by decide) ?_; clear hT; intro a hT
  refine l_q hT (q_len_slice hT rfl Tryz.underlying22) rfl rfl (by decide) ?_; clear hT; intro a hT
  refine l_q hT ((q_gtr hT rfl rfl).b (c := decide (200 < (len : Int))) (b := false) (decide_eq_false (by omega))) rfl rfl (by decide) ?_; clear hT; intro a hT
  refine l_end ?_
  refine then_norm ?_
  refine c_false hT rfl rfl ?_
  refine wp_skip ?_
  refine then_norm ?_
  refine c_seq ?_
  refine c_region ?_
  refine l_q hT (q_move hT rfl) rfl rfl (by decide) ?_; clear hT; intro a hT
  refine l_q hT (q_move hT rfl) rfl rfl (by decide) ?_; clear hT; intro a hT
  refine l_q hT (q_load_agg hT rfl Tryz.ty24 (hL.rd 0 rfl 0 (ds := digC pt) rfl) rfl) rfl rfl (by decide) ?_; clear hT; intro a hT
  refine l_do rfl ?_
  refine w_callT (xs := [.tmp 43, .tmp 44, .tmp 45]) hT rfl (vs := [(vI w), (Value.slice p len cap), (Value.agg (digC pt).toArray)]) rfl (args := #[(vI w), (Value.slice p len cap), (Value.agg (digC pt).toArray)]) rfl Tryz.func11 rfl rfl (by decide) ((make_err w ls p len cap pt he _ (KeysAt.of hK hL (by simp)) (hsl.ext hL)).mono ?_)
  rintro e w2 ⟨rfl, hX⟩
  refine ⟨_, rfl, ?_⟩; clear hT; intro a hT; replace hT : Tm 74 a ((46, (Value.tuple #[(Value.agg ([(Value.bool false)] ++ (digC Dig.zero)).toArray), (Value.agg ([(Value.slice none 0 0), (Value.bool false)] ++ (digC Dig.zero ++ (digC Dig.zero))).toArray), (vI (rootE w ls))])) :: _) := hT
  replace hL := hL.ext hX
  refine l_q hT (q_move hT rfl) rfl rfl (by decide) ?_; clear hT; intro a hT
  refine l_q hT (q_extract hT rfl rfl) rfl rfl (by decide) ?_; clear hT; intro a hT
  refine l_q hT (q_extract hT rfl rfl) rfl rfl (by decide) ?_; clear hT; intro a hT
  refine l_q hT (q_extract hT rfl rfl) rfl rfl (by decide) ?_; clear hT; intro a hT
  refine l_do rfl ?_
  refine w_alloc hT hL (by decide) Tryz.ty26 ?_; clear hT hL; intro b2 a w3 hT hL hE hB
  refine l_do rfl ?_
  refine w_alloc hT hL (by decide) Tryz.ty29 ?_; clear hT hL; intro b3 a w4 hT hL hE hB
  refine l_do rfl ?_
  refine w_store hT hL 1 (c := [(Value.bool false)] ++ (digC Dig.zero)) rfl rfl Tryz.ty26 rfl (vs := [(Value.bool false)] ++ (digC Dig.zero)) rfl rfl (by first | decide | (simp [arr32_len, arr8_len, digC_len]; done) | (simp [arr32_len, arr8_len, digC_len]; omega)) rfl (c' := [(Value.bool false)] ++ (digC Dig.zero)) rfl ?_; clear hL; intro w5 hL hE
  replace hL : Vg.Loc [] w0 w5 ([[(b3, ob ([(Value.slice none 0 0), (Value.bool false)] ++ (digC Dig.zero ++ (digC Dig.zero))) 29)], [(b2, ob ([(Value.bool false)] ++ (digC Dig.zero)) 26)], [(b1, ob (digC pt) 24)]]) := hL
  refine l_do rfl ?_
  refine w_store hT hL 0 (c := [(Value.slice none 0 0), (Value.bool false)] ++ (digC Dig.zero ++ (digC Dig.zero))) rfl rfl Tryz.ty29 rfl (vs := [(Value.slice none 0 0), (Value.bool false)] ++ (digC Dig.zero ++ (digC Dig.zero))) rfl rfl (by first | decide | (simp [arr32_len, arr8_len, digC_len]; done) | (simp [arr32_len, arr8_len, digC_len]; omega)) rfl (c' := [(Value.slice none 0 0), (Value.bool false)] ++ (digC Dig.zero ++ (digC Dig.zero))) rfl ?_; clear hL; intro w6 hL hE
  replace hL : Vg.Loc [] w0 w6 ([[(b3, ob ([(Value.slice none 0 0), (Value.bool false)] ++ (digC Dig.zero ++ (digC Dig.zero))) 29)], [(b2, ob ([(Value.bool false)] ++ (digC Dig.zero)) 26)], [(b1, ob (digC pt) 24)]]) := hL
  refine l_q hT (q_assign hT rfl) rfl rfl (by decide) ?_; clear hT; intro a hT
  refine l_end ?_
  refine then_norm ?_
  refine c_seq ?_
  refine c_region ?_
  refine l_q hT (q_move hT rfl) rfl rfl (by decide) ?_; clear hT; intro a hT
  refine l_q hT (q_move hT rfl) rfl rfl (by decide) ?_; clear hT; intro a hT
  refine l_q hT (q_load_agg hT rfl Tryz.ty24 (hL.rd 2 rfl 0 (ds := digC pt) rfl) rfl) rfl rfl (by decide) ?_; clear hT; intro a hT
  refine l_do rfl ?_
  refine w_callT (xs := [.tmp 51, .tmp 52, .tmp 53]) hT rfl (vs := [(vI w), (Value.slice p len cap), (Value.agg (digC pt).toArray)]) rfl (args := #[(vI w), (Value.slice p len cap), (Value.agg (digC pt).toArray)]) rfl Tryz.func15 rfl rfl (by decide) ((refMake_err w ls p len cap pt he _ (hK2.of hL (by simp)) (hsl.ext hL)).mono ?_)
  rintro e w7 ⟨rfl, hX⟩
  refine ⟨_, rfl, ?_⟩; clear hT; intro a hT; replace hT : Tm 74 a ((54, (Value.tuple #[(Value.agg ([(Value.bool false)] ++ (digC Dig.zero)).toArray), (Value.agg ([(Value.slice none 0 0), (Value.bool false)] ++ (digC Dig.zero ++ (digC Dig.zero))).toArray), (vI (rootE w ls))])) :: _) := hT
  replace hL := hL.ext hX
  refine l_q hT (q_move hT rfl) rfl rfl (by decide) ?_; clear hT; intro a hT
  refine l_q hT (q_extract hT rfl rfl) rfl rfl (by decide) ?_; clear hT; intro a hT
  refine l_q hT (q_extract hT rfl rfl) rfl rfl (by decide) ?_; clear hT; intro a hT
  refine l_q hT (q_extract hT rfl rfl) rfl rfl (by decide) ?_; clear hT; intro a hT
  refine l_do rfl ?_
  refine w_alloc hT hL (by decide) Tryz.ty26 ?_; clear hT hL; intro b4 a w8 hT hL hE hB
  refine l_do rfl ?_
  refine w_alloc hT hL (by decide) Tryz.ty29 ?_; clear hT hL; intro b5 a w9 hT hL hE hB
  refine l_do rfl ?_
  refine w_store hT hL 1 (c := [(Value.bool false)] ++ (digC Dig.zero)) rfl rfl Tryz.ty26 rfl (vs := [(Value.bool false)] ++ (digC Dig.zero)) rfl rfl (by first | decide | (simp [arr32_len, arr8_len, digC_len]; done) | (simp [arr32_len, arr8_len, digC_len]; omega)) rfl (c' := [(Value.bool false)] ++ (digC Dig.zero)) rfl ?_; clear hL; intro w10 hL hE
  replace hL : Vg.Loc [] w0 w10 ([[(b5, ob ([(Value.slice none 0 0), (Value.bool false)] ++ (digC Dig.zero ++ (digC Dig.zero))) 29)], [(b4, ob ([(Value.bool false)] ++ (digC Dig.zero)) 26)], [(b3, ob ([(Value.slice none 0 0), (Value.bool false)] ++ (digC Dig.zero ++ (digC Dig.zero))) 29)], [(b2, ob ([(Value.bool false)] ++ (digC Dig.zero)) 26)], [(b1, ob (digC pt) 24)]]) := hL
  refine l_do rfl ?_
  refine w_store hT hL 0 (c := [(Value.slice none 0 0), (Value.bool false)] ++ (digC Dig.zero ++ (digC Dig.zero))) rfl rfl Tryz.ty29 rfl (vs := [(Value.slice none 0 0), (Value.bool false)] ++ (digC Dig.zero ++ (digC Dig.zero))) rfl rfl (by first | decide | (simp [arr32_len, arr8_len, digC_len]; done) | (simp [arr32_len, arr8_len, digC_len]; omega)) rfl (c' := [(Value.slice none 0 0), (Value.bool false)] ++ (digC Dig.zero ++ (digC Dig.zero))) rfl ?_; clear hL; intro w11 hL hE
  replace hL : Vg.Loc [] w0 w11 ([[(b5, ob ([(Value.slice none 0 0), (Value.bool false)] ++ (digC Dig.zero ++ (digC Dig.zero))) 29)], [(b4, ob ([(Value.bool false)] ++ (digC Dig.zero)) 26)], [(b3, ob ([(Value.slice none 0 0), (Value.bool false)] ++ (digC Dig.zero ++ (digC Dig.zero))) 29)], [(b2, ob ([(Value.bool false)] ++ (digC Dig.zero)) 26)], [(b1, ob (digC pt) 24)]]) := hL
  refine l_q hT (q_assign hT rfl) rfl rfl (by decide) ?_; clear hT; intro a hT
  refine l_end ?_
  refine then_norm ?_
  refine c_seq ?_
  refine c_region ?_
  refine l_do rfl ?_
  refine w_callT (xs := []) hT rfl (vs := []) rfl (args := #[]) rfl Tryz.func14 rfl rfl (by decide) ((makes_spec _ (hK.of hL (by simp))).mono ?_)
  rintro e w12 ⟨rfl, hX⟩
  refine ⟨_, rfl, ?_⟩; clear hT; intro a hT; replace hT : Tm 74 a ((58, (Value.bool true)) :: _) := hT
  replace hL := hL.ext hX
  refine l_q hT (q_move hT rfl) rfl rfl (by decide) ?_; clear hT; intro a hT
  refine l_on hT rfl rfl rfl rfl (w_q hT (q_load_agg hT rfl Tryz.ty26 (hL.rd 3 rfl 0 (ds := [(Value.bool false)] ++ (digC Dig.zero)) rfl) rfl) rfl (by decide) ?_); clear hT; intro a hT
  refine l_on hT rfl rfl rfl rfl (w_q hT (q_load_agg hT rfl Tryz.ty26 (hL.rd 1 rfl 0 (ds := [(Value.bool false)] ++ (digC Dig.zero)) rfl) rfl) rfl (by decide) ?_); clear hT; intro a hT
  refine l_on hT rfl rfl rfl rfl (w_q hT ((q_eq_agg hT rfl rfl Tryz.eqg26 (EqR.struct2 (xs := [(Value.bool false)] ++ (digC Dig.zero)) (ys := [(Value.bool false)] ++ (digC Dig.zero)) Tryz.fds26 Tryz.stood26 (EqF2.one rfl rfl (((EqR.bool Tryz.underlying4 false false)).up) (EqF2.agg (us := digC Dig.zero) (vs := digC Dig.zero) rfl rfl (EqR.dig Tryz.arr24 Tryz.underlying5 Dig.zero Dig.zero) EqF2.nil))) (by decide)).b (b := true) (by simp)) rfl (by decide) ?_); clear hT; intro a hT
  refine l_q hT ((q_pick hT rfl rfl rfl).v (v := (Value.bool true)) rfl) rfl rfl (by decide) ?_; clear hT; intro a hT
  refine l_q hT (q_move hT rfl) rfl rfl (by decide) ?_; clear hT; intro a hT
  refine l_on hT rfl rfl rfl rfl (w_q hT (q_move hT rfl) rfl (by decide) ?_); clear hT; intro a hT
  refine l_on hT rfl rfl rfl rfl (w_q hT (q_move hT rfl) rfl (by decide) ?_); clear hT; intro a hT
  refine l_on hT rfl rfl rfl rfl (w_q hT ((q_eql hT rfl rfl).b (c := decide ((rootE w ls) = (rootE w ls))) (b := true) (by simp)) rfl (by decide) ?_); clear hT; intro a hT
  refine l_q hT ((q_pick hT rfl rfl rfl).v (v := (Value.bool true)) rfl) rfl rfl (by decide) ?_; clear hT; intro a hT
  refine l_q hT (q_move hT rfl) rfl rfl (by decide) ?_; clear hT; intro a hT
  refine l_on hT rfl rfl rfl rfl (w_q hT (q_load_agg hT rfl Tryz.ty29 (hL.rd 2 rfl 0 (ds := [(Value.slice none 0 0), (Value.bool false)] ++ (digC Dig.zero ++ (digC Dig.zero))) rfl) rfl) rfl (by decide) ?_); clear hT; intro a hT
  refine l_on hT rfl rfl rfl rfl (w_q hT (q_load_agg hT rfl Tryz.ty29 (hL.rd 0 rfl 0 (ds := [(Value.slice none 0 0), (Value.bool false)] ++ (digC Dig.zero ++ (digC Dig.zero))) rfl) rfl) rfl (by decide) ?_); clear hT; intro a hT
  refine l_on hT rfl rfl rfl rfl ?_
  refine w_callT (xs := [.tmp 70, .tmp 71]) hT rfl (vs := [(Value.agg ([(Value.slice none 0 0), (Value.bool false)] ++ (digC Dig.zero ++ (digC Dig.zero))).toArray), (Value.agg ([(Value.slice none 0 0), (Value.bool false)] ++ (digC Dig.zero ++ (digC Dig.zero))).toArray)]) rfl (args := #[(Value.agg ([(Value.slice none 0 0), (Value.bool false)] ++ (digC Dig.zero ++ (digC Dig.zero))).toArray), (Value.agg ([(Value.slice none 0 0), (Value.bool false)] ++ (digC Dig.zero ++ (digC Dig.zero))).toArray)]) rfl Tryz.func16 rfl rfl (by decide) ((refSame_spec [] false Dig.zero Dig.zero none none 0 0 0 (by omega) _ SlT.nil SlT.nil).mono ?_)
  rintro e w13 ⟨rfl, hX⟩
  refine ⟨_, rfl, ?_⟩; clear hT; intro a hT; replace hT : Tm 74 a ((72, (Value.bool true)) :: _) := hT
  replace hL := hL.ext hX
  refine l_q hT ((q_pick hT rfl rfl rfl).v (v := (Value.bool true)) rfl) rfl rfl (by decide) ?_; clear hT; intro a hT
  refine l_q hT (q_assign hT rfl) rfl rfl (by decide) ?_; clear hT; intro a hT
  refine l_end ?_
  refine then_norm ?_
  refine wp_ret ?_
  refine c_ret (vs := [(Value.bool true)]) (rs := [.tmp 6]) hT rfl (.tmp rfl .nil) ?_
  exact ⟨rfl, hL.drop⟩

set_option maxRecDepth 100000 in
set_option maxHeartbeats 4000000 in
theorem pm_ok (w : Int) (ls : List Leaf) (p : Option Addr) (len cap : Nat) (pt : Dig) (hl : len ≤ 200) (he : rootE w ls = 0) (w0 : World) (hK : KeysAt w0) (hK2 : Key2At w0) (hsl : SlT w0 p len 64 leafC noLeaf ls) :
    Calls Tryz.prog 3 #[(vI w), (Value.slice p len cap), (Value.agg (digC pt).toArray)] w0 fun e w' => e = .returned (.bool true) ∧ Ext w0 w' := by
  refine c_enter (n := 74) (args := [(vI w), (Value.slice p len cap), (Value.agg (digC pt).toArray)]) Tryz.func3 rfl rfl (Nat.le_of_ble_eq_true rfl) rfl (fun a hT => ?_)
  simp only [List.zipIdx_cons, List.zipIdx_nil, List.map_cons, List.map_nil, Nat.reduceAdd] at hT
  have hL := Vg.Loc.refl [] w0
  have hlen : ls.length = len := hsl.1
  have hc := rootE_le he
  have hgl := go_most w pt ls; have hmb := most_bound pt ls
  refine c_seq ?_
  refine c_region ?_
  refine l_do rfl ?_
  refine w_box hT hL (by decide) rfl (c := digC pt) rfl ?_; clear hT hL; intro b1 a w1 hT hL hE hB
  refine l_q hT (q_assign hT rfl) rfl rfl (by decide) ?_; clear hT; intro a hT
  refine l_end ?_
  refine then_norm ?_
  refine c_seq ?_
  refine c_seq ?_
  refine c_region ?_
  refine l_q hT (q_move hT rfl) rfl rfl (by decide) ?_; clear hT; intro a hT
  refine l_q hT (q_len_slice hT rfl Tryz.underlying22) rfl rfl (by decide) ?_; clear hT; intro a hT
  refine l_q hT ((q_gtr hT rfl rfl).b (c := decide (200 < (len : Int))) (b := false) (decide_eq_false (by omega))) rfl rfl (by decide) ?_; clear hT; intro a hT
  refine l_end ?_
  refine then_norm ?_
  refine c_false hT rfl rfl ?_
  refine wp_skip ?_
  refine then_norm ?_
  refine c_seq ?_
  refine c_region ?_
  refine l_q hT (q_move hT rfl) rfl rfl (by decide) ?_; clear hT; intro a hT
  refine l_q hT (q_move hT rfl) rfl rfl (by decide) ?_; clear hT; intro a hT
  refine l_q hT (q_load_agg hT rfl Tryz.ty24 (hL.rd 0 rfl 0 (ds := digC pt) rfl) rfl) rfl rfl (by decide) ?_; clear hT; intro a hT
  refine l_do rfl ?_
  refine w_callT (xs := [.tmp 43, .tmp 44, .tmp 45]) hT rfl (vs := [(vI w), (Value.slice p len cap), (Value.agg (digC pt).toArray)]) rfl (args := #[(vI w), (Value.slice p len cap), (Value.agg (digC pt).toArray)]) rfl Tryz.func11 rfl rfl (by decide) ((make_ok w ls p len cap pt (by omega) he _ (KeysAt.of hK hL (by simp)) (hsl.ext hL)).mono ?_)
  rintro e w2 ⟨ps, cps, cs, rfl, hX, hsib⟩
  refine ⟨_, rfl, ?_⟩; clear hT; intro a hT; replace hT : Tm 74 a ((46, (Value.tuple #[(Value.agg ([(Value.bool ((saysL pt (goL w pt 257 ls 0).2).1))] ++ (digC ((saysL pt (goL w pt 257 ls 0).2).2.1))).toArray), (Value.agg ([(Value.slice ps ((goL w pt 257 ls 0).1.length) cps), (Value.bool ((saysL pt (goL w pt 257 ls 0).2).2.2.1))] ++ (digC ((saysL pt (goL w pt 257 ls 0).2).2.2.2.1) ++ (digC ((saysL pt (goL w pt 257 ls 0).2).2.2.2.2)))).toArray), (vI 0)])) :: _) := hT
  replace hL : Vg.Loc [] w0 w2 ([cs, [(b1, ob (digC pt) 24)]]) := hL.exts hX
  refine l_q hT (q_move hT rfl) rfl rfl (by decide) ?_; clear hT; intro a hT
  refine l_q hT (q_extract hT rfl rfl) rfl rfl (by decide) ?_; clear hT; intro a hT
  refine l_q hT (q_extract hT rfl rfl) rfl rfl (by decide) ?_; clear hT; intro a hT
  refine l_q hT (q_extract hT rfl rfl) rfl rfl (by decide) ?_; clear hT; intro a hT
  refine l_do rfl ?_
  refine w_alloc hT hL (by decide) Tryz.ty26 ?_; clear hT hL; intro b2 a w3 hT hL hE hB
  refine l_do rfl ?_
  refine w_alloc hT hL (by decide) Tryz.ty29 ?_; clear hT hL; intro b3 a w4 hT hL hE hB
  refine l_do rfl ?_
  refine w_store hT hL 1 (c := [(Value.bool false)] ++ (digC Dig.zero)) rfl rfl Tryz.ty26 rfl (vs := [(Value.bool ((saysL pt (goL w pt 257 ls 0).2).1))] ++ (digC ((saysL pt (goL w pt 257 ls 0).2).2.1))) rfl rfl (by first | decide | (simp [arr32_len, arr8_len, digC_len]; done) | (simp [arr32_len, arr8_len, digC_len]; omega)) rfl (c' := [(Value.bool ((saysL pt (goL w pt 257 ls 0).2).1))] ++ (digC ((saysL pt (goL w pt 257 ls 0).2).2.1))) rfl ?_; clear hL; intro w5 hL hE
  replace hL : Vg.Loc [] w0 w5 ([[(b3, ob ([(Value.slice none 0 0), (Value.bool false)] ++ (digC Dig.zero ++ (digC Dig.zero))) 29)], [(b2, ob ([(Value.bool ((saysL pt (goL w pt 257 ls 0).2).1))] ++ (digC ((saysL pt (goL w pt 257 ls 0).2).2.1))) 26)], cs, [(b1, ob (digC pt) 24)]]) := hL
  refine l_do rfl ?_
  refine w_store hT hL 0 (c := [(Value.slice none 0 0), (Value.bool false)] ++ (digC Dig.zero ++ (digC Dig.zero))) rfl rfl Tryz.ty29 rfl (vs := [(Value.slice ps ((goL w pt 257 ls 0).1.length) cps), (Value.bool ((saysL pt (goL w pt 257 ls 0).2).2.2.1))] ++ (digC ((saysL pt (goL w pt 257 ls 0).2).2.2.2.1) ++ (digC ((saysL pt (goL w pt 257 ls 0).2).2.2.2.2)))) rfl rfl (by first | decide | (simp [arr32_len, arr8_len, digC_len]; done) | (simp [arr32_len, arr8_len, digC_len]; omega)) rfl (c' := [(Value.slice ps ((goL w pt 257 ls 0).1.length) cps), (Value.bool ((saysL pt (goL w pt 257 ls 0).2).2.2.1))] ++ (digC ((saysL pt (goL w pt 257 ls 0).2).2.2.2.1) ++ (digC ((saysL pt (goL w pt 257 ls 0).2).2.2.2.2)))) rfl ?_; clear hL; intro w6 hL hE
  replace hL : Vg.Loc [] w0 w6 ([[(b3, ob ([(Value.slice ps ((goL w pt 257 ls 0).1.length) cps), (Value.bool ((saysL pt (goL w pt 257 ls 0).2).2.2.1))] ++ (digC ((saysL pt (goL w pt 257 ls 0).2).2.2.2.1) ++ (digC ((saysL pt (goL w pt 257 ls 0).2).2.2.2.2)))) 29)], [(b2, ob ([(Value.bool ((saysL pt (goL w pt 257 ls 0).2).1))] ++ (digC ((saysL pt (goL w pt 257 ls 0).2).2.1))) 26)], cs, [(b1, ob (digC pt) 24)]]) := hL
  refine l_q hT (q_assign hT rfl) rfl rfl (by decide) ?_; clear hT; intro a hT
  refine l_end ?_
  refine then_norm ?_
  refine c_seq ?_
  refine c_region ?_
  refine l_q hT (q_move hT rfl) rfl rfl (by decide) ?_; clear hT; intro a hT
  refine l_q hT (q_move hT rfl) rfl rfl (by decide) ?_; clear hT; intro a hT
  refine l_q hT (q_load_agg hT rfl Tryz.ty24 (hL.rd 3 rfl 0 (ds := digC pt) rfl) rfl) rfl rfl (by decide) ?_; clear hT; intro a hT
  refine l_do rfl ?_
  refine w_callT (xs := [.tmp 51, .tmp 52, .tmp 53]) hT rfl (vs := [(vI w), (Value.slice p len cap), (Value.agg (digC pt).toArray)]) rfl (args := #[(vI w), (Value.slice p len cap), (Value.agg (digC pt).toArray)]) rfl Tryz.func15 rfl rfl (by decide) ((refMake_ok w ls p len cap pt he _ (hK2.of hL (by simp)) (hsl.ext hL)).mono ?_)
  rintro e w7 ⟨pr, cpr, cr, rfl, hX, hsir⟩
  refine ⟨_, rfl, ?_⟩; clear hT; intro a hT; replace hT : Tm 74 a ((54, (Value.tuple #[(Value.agg ([(Value.bool ((saysL pt (goL w pt 257 ls 0).2).1))] ++ (digC ((saysL pt (goL w pt 257 ls 0).2).2.1))).toArray), (Value.agg ([(Value.slice pr ((goL w pt 257 ls 0).1.length) cpr), (Value.bool ((saysL pt (goL w pt 257 ls 0).2).2.2.1))] ++ (digC ((saysL pt (goL w pt 257 ls 0).2).2.2.2.1) ++ (digC ((saysL pt (goL w pt 257 ls 0).2).2.2.2.2)))).toArray), (vI 0)])) :: _) := hT
  replace hL : Vg.Loc [] w0 w7 ([cr, [(b3, ob ([(Value.slice ps ((goL w pt 257 ls 0).1.length) cps), (Value.bool ((saysL pt (goL w pt 257 ls 0).2).2.2.1))] ++ (digC ((saysL pt (goL w pt 257 ls 0).2).2.2.2.1) ++ (digC ((saysL pt (goL w pt 257 ls 0).2).2.2.2.2)))) 29)], [(b2, ob ([(Value.bool ((saysL pt (goL w pt 257 ls 0).2).1))] ++ (digC ((saysL pt (goL w pt 257 ls 0).2).2.1))) 26)], cs, [(b1, ob (digC pt) 24)]]) := hL.exts hX
  refine l_q hT (q_move hT rfl) rfl rfl (by decide) ?_; clear hT; intro a hT
  refine l_q hT (q_extract hT rfl rfl) rfl rfl (by decide) ?_; clear hT; intro a hT
  refine l_q hT (q_extract hT rfl rfl) rfl rfl (by decide) ?_; clear hT; intro a hT
  refine l_q hT (q_extract hT rfl rfl) rfl rfl (by decide) ?_; clear hT; intro a hT
  refine l_do rfl ?_
  refine w_alloc hT hL (by decide) Tryz.ty26 ?_; clear hT hL; intro b4 a w8 hT hL hE hB
  refine l_do rfl ?_
  refine w_alloc hT hL (by decide) Tryz.ty29 ?_; clear hT hL; intro b5 a w9 hT hL hE hB
  refine l_do rfl ?_
  refine w_store hT hL 1 (c := [(Value.bool false)] ++ (digC Dig.zero)) rfl rfl Tryz.ty26 rfl (vs := [(Value.bool ((saysL pt (goL w pt 257 ls 0).2).1))] ++ (digC ((saysL pt (goL w pt 257 ls 0).2).2.1))) rfl rfl (by first | decide | (simp [arr32_len, arr8_len, digC_len]; done) | (simp [arr32_len, arr8_len, digC_len]; omega)) rfl (c' := [(Value.bool ((saysL pt (goL w pt 257 ls 0).2).1))] ++ (digC ((saysL pt (goL w pt 257 ls 0).2).2.1))) rfl ?_; clear hL; intro w10 hL hE
  replace hL : Vg.Loc [] w0 w10 ([[(b5, ob ([(Value.slice none 0 0), (Value.bool false)] ++ (digC Dig.zero ++ (digC Dig.zero))) 29)], [(b4, ob ([(Value.bool ((saysL pt (goL w pt 257 ls 0).2).1))] ++ (digC ((saysL pt (goL w pt 257 ls 0).2).2.1))) 26)], cr, [(b3, ob ([(Value.slice ps ((goL w pt 257 ls 0).1.length) cps), (Value.bool ((saysL pt (goL w pt 257 ls 0).2).2.2.1))] ++ (digC ((saysL pt (goL w pt 257 ls 0).2).2.2.2.1) ++ (digC ((saysL pt (goL w pt 257 ls 0).2).2.2.2.2)))) 29)], [(b2, ob ([(Value.bool ((saysL pt (goL w pt 257 ls 0).2).1))] ++ (digC ((saysL pt (goL w pt 257 ls 0).2).2.1))) 26)], cs, [(b1, ob (digC pt) 24)]]) := hL
  refine l_do rfl ?_
  refine w_store hT hL 0 (c := [(Value.slice none 0 0), (Value.bool false)] ++ (digC Dig.zero ++ (digC Dig.zero))) rfl rfl Tryz.ty29 rfl (vs := [(Value.slice pr ((goL w pt 257 ls 0).1.length) cpr), (Value.bool ((saysL pt (goL w pt 257 ls 0).2).2.2.1))] ++ (digC ((saysL pt (goL w pt 257 ls 0).2).2.2.2.1) ++ (digC ((saysL pt (goL w pt 257 ls 0).2).2.2.2.2)))) rfl rfl (by first | decide | (simp [arr32_len, arr8_len, digC_len]; done) | (simp [arr32_len, arr8_len, digC_len]; omega)) rfl (c' := [(Value.slice pr ((goL w pt 257 ls 0).1.length) cpr), (Value.bool ((saysL pt (goL w pt 257 ls 0).2).2.2.1))] ++ (digC ((saysL pt (goL w pt 257 ls 0).2).2.2.2.1) ++ (digC ((saysL pt (goL w pt 257 ls 0).2).2.2.2.2)))) rfl ?_; clear hL; intro w11 hL hE
  replace hL : Vg.Loc [] w0 w11 ([[(b5, ob ([(Value.slice pr ((goL w pt 257 ls 0).1.length) cpr), (Value.bool ((saysL pt (goL w pt 257 ls 0).2).2.2.1))] ++ (digC ((saysL pt (goL w pt 257 ls 0).2).2.2.2.1) ++ (digC ((saysL pt (goL w pt 257 ls 0).2).2.2.2.2)))) 29)], [(b4, ob ([(Value.bool ((saysL pt (goL w pt 257 ls 0).2).1))] ++ (digC ((saysL pt (goL w pt 257 ls 0).2).2.1))) 26)], cr, [(b3, ob ([(Value.slice ps ((goL w pt 257 ls 0).1.length) cps), (Value.bool ((saysL pt (goL w pt 257 ls 0).2).2.2.1))] ++ (digC ((saysL pt (goL w pt 257 ls 0).2).2.2.2.1) ++ (digC ((saysL pt (goL w pt 257 ls 0).2).2.2.2.2)))) 29)], [(b2, ob ([(Value.bool ((saysL pt (goL w pt 257 ls 0).2).1))] ++ (digC ((saysL pt (goL w pt 257 ls 0).2).2.1))) 26)], cs, [(b1, ob (digC pt) 24)]]) := hL
  refine l_q hT (q_assign hT rfl) rfl rfl (by decide) ?_; clear hT; intro a hT
  refine l_end ?_
  refine then_norm ?_
  refine c_seq ?_
  refine c_region ?_
  refine l_do rfl ?_
  refine w_callT (xs := []) hT rfl (vs := []) rfl (args := #[]) rfl Tryz.func14 rfl rfl (by decide) ((makes_spec _ (hK.of hL (by simp))).mono ?_)
  rintro e w12 ⟨rfl, hX⟩
  refine ⟨_, rfl, ?_⟩; clear hT; intro a hT; replace hT : Tm 74 a ((58, (Value.bool true)) :: _) := hT
  replace hL := hL.ext hX
  refine l_q hT (q_move hT rfl) rfl rfl (by decide) ?_; clear hT; intro a hT
  refine l_on hT rfl rfl rfl rfl (w_q hT (q_load_agg hT rfl Tryz.ty26 (hL.rd 4 rfl 0 (ds := [(Value.bool ((saysL pt (goL w pt 257 ls 0).2).1))] ++ (digC ((saysL pt (goL w pt 257 ls 0).2).2.1))) rfl) rfl) rfl (by decide) ?_); clear hT; intro a hT
  refine l_on hT rfl rfl rfl rfl (w_q hT (q_load_agg hT rfl Tryz.ty26 (hL.rd 1 rfl 0 (ds := [(Value.bool ((saysL pt (goL w pt 257 ls 0).2).1))] ++ (digC ((saysL pt (goL w pt 257 ls 0).2).2.1))) rfl) rfl) rfl (by decide) ?_); clear hT; intro a hT
  refine l_on hT rfl rfl rfl rfl (w_q hT ((q_eq_agg hT rfl rfl Tryz.eqg26 (EqR.struct2 (xs := [(Value.bool ((saysL pt (goL w pt 257 ls 0).2).1))] ++ (digC ((saysL pt (goL w pt 257 ls 0).2).2.1))) (ys := [(Value.bool ((saysL pt (goL w pt 257 ls 0).2).1))] ++ (digC ((saysL pt (goL w pt 257 ls 0).2).2.1))) Tryz.fds26 Tryz.stood26 (EqF2.one rfl rfl (((EqR.bool Tryz.underlying4 ((saysL pt (goL w pt 257 ls 0).2).1) ((saysL pt (goL w pt 257 ls 0).2).1))).up) (EqF2.agg (us := digC ((saysL pt (goL w pt 257 ls 0).2).2.1)) (vs := digC ((saysL pt (goL w pt 257 ls 0).2).2.1)) rfl rfl (EqR.dig Tryz.arr24 Tryz.underlying5 ((saysL pt (goL w pt 257 ls 0).2).2.1) ((saysL pt (goL w pt 257 ls 0).2).2.1)) EqF2.nil))) (by decide)).b (b := true) (by simp)) rfl (by decide) ?_); clear hT; intro a hT
  refine l_q hT ((q_pick hT rfl rfl rfl).v (v := (Value.bool true)) rfl) rfl rfl (by decide) ?_; clear hT; intro a hT
  refine l_q hT (q_move hT rfl) rfl rfl (by decide) ?_; clear hT; intro a hT
  refine l_on hT rfl rfl rfl rfl (w_q hT (q_move hT rfl) rfl (by decide) ?_); clear hT; intro a hT
  refine l_on hT rfl rfl rfl rfl (w_q hT (q_move hT rfl) rfl (by decide) ?_); clear hT; intro a hT
  refine l_on hT rfl rfl rfl rfl (w_q hT ((q_eql hT rfl rfl).b (b := true) rfl) rfl (by decide) ?_); clear hT; intro a hT
  refine l_q hT ((q_pick hT rfl rfl rfl).v (v := (Value.bool true)) rfl) rfl rfl (by decide) ?_; clear hT; intro a hT
  refine l_q hT (q_move hT rfl) rfl rfl (by decide) ?_; clear hT; intro a hT
  refine l_on hT rfl rfl rfl rfl (w_q hT (q_load_agg hT rfl Tryz.ty29 (hL.rd 3 rfl 0 (ds := [(Value.slice ps ((goL w pt 257 ls 0).1.length) cps), (Value.bool ((saysL pt (goL w pt 257 ls 0).2).2.2.1))] ++ (digC ((saysL pt (goL w pt 257 ls 0).2).2.2.2.1) ++ (digC ((saysL pt (goL w pt 257 ls 0).2).2.2.2.2)))) rfl) rfl) rfl (by decide) ?_); clear hT; intro a hT
  refine l_on hT rfl rfl rfl rfl (w_q hT (q_load_agg hT rfl Tryz.ty29 (hL.rd 0 rfl 0 (ds := [(Value.slice pr ((goL w pt 257 ls 0).1.length) cpr), (Value.bool ((saysL pt (goL w pt 257 ls 0).2).2.2.1))] ++ (digC ((saysL pt (goL w pt 257 ls 0).2).2.2.2.1) ++ (digC ((saysL pt (goL w pt 257 ls 0).2).2.2.2.2)))) rfl) rfl) rfl (by decide) ?_); clear hT; intro a hT
  refine l_on hT rfl rfl rfl rfl ?_
  refine w_callT (xs := [.tmp 70, .tmp 71]) hT rfl (vs := [(Value.agg ([(Value.slice ps ((goL w pt 257 ls 0).1.length) cps), (Value.bool ((saysL pt (goL w pt 257 ls 0).2).2.2.1))] ++ (digC ((saysL pt (goL w pt 257 ls 0).2).2.2.2.1) ++ (digC ((saysL pt (goL w pt 257 ls 0).2).2.2.2.2)))).toArray), (Value.agg ([(Value.slice pr ((goL w pt 257 ls 0).1.length) cpr), (Value.bool ((saysL pt (goL w pt 257 ls 0).2).2.2.1))] ++ (digC ((saysL pt (goL w pt 257 ls 0).2).2.2.2.1) ++ (digC ((saysL pt (goL w pt 257 ls 0).2).2.2.2.2)))).toArray)]) rfl (args := #[(Value.agg ([(Value.slice ps ((goL w pt 257 ls 0).1.length) cps), (Value.bool ((saysL pt (goL w pt 257 ls 0).2).2.2.1))] ++ (digC ((saysL pt (goL w pt 257 ls 0).2).2.2.2.1) ++ (digC ((saysL pt (goL w pt 257 ls 0).2).2.2.2.2)))).toArray), (Value.agg ([(Value.slice pr ((goL w pt 257 ls 0).1.length) cpr), (Value.bool ((saysL pt (goL w pt 257 ls 0).2).2.2.1))] ++ (digC ((saysL pt (goL w pt 257 ls 0).2).2.2.2.1) ++ (digC ((saysL pt (goL w pt 257 ls 0).2).2.2.2.2)))).toArray)]) rfl Tryz.func16 rfl rfl (by decide) ((refSame_spec (goL w pt 257 ls 0).1 (saysL pt (goL w pt 257 ls 0).2).2.2.1 (saysL pt (goL w pt 257 ls 0).2).2.2.2.1 (saysL pt (goL w pt 257 ls 0).2).2.2.2.2 ps pr _ cps cpr (by omega) _ (hsib.slt digC_len hL (i := 5) rfl) (hsir.slt digC_len hL (i := 2) rfl)).mono ?_)
  rintro e w13 ⟨rfl, hX⟩
  refine ⟨_, rfl, ?_⟩; clear hT; intro a hT; replace hT : Tm 74 a ((72, (Value.bool true)) :: _) := hT
  replace hL := hL.ext hX
  refine l_q hT ((q_pick hT rfl rfl rfl).v (v := (Value.bool true)) rfl) rfl rfl (by decide) ?_; clear hT; intro a hT
  refine l_q hT (q_assign hT rfl) rfl rfl (by decide) ?_; clear hT; intro a hT
  refine l_end ?_
  refine then_norm ?_
  refine wp_ret ?_
  refine c_ret (vs := [(Value.bool true)]) (rs := [.tmp 6]) hT rfl (.tmp rfl .nil) ?_
  exact ⟨rfl, hL.drop⟩

theorem pm_all (w : Int) (ls : List Leaf) (p : Option Addr) (len cap : Nat) (pt : Dig) (w0 : World) (hK : KeysAt w0) (hK2 : Key2At w0) (hsl : SlT w0 p len 64 leafC noLeaf ls) : Calls Tryz.prog 3 #[vI w, .slice p len cap, dv pt] w0 fun e w' => e = .returned (.bool true) ∧ Ext w0 w' := by
  by_cases hl : 200 < len
  · by_cases hw : widthB w = false
    · exact pm_arg w ls p len cap pt hl hw w0 hK hK2 hsl
    · have hw1 : widthB w = true := by simpa using hw
      by_cases hc : 4096 < len
      · exact pm_limit w ls p len cap pt hl hw1 hc w0 hK hK2 hsl
      · by_cases htt : twins ls = true
        · exact pm_twice w ls p len cap pt hl hw1 (by omega) htt w0 hK hK2 hsl
        · exact pm_mok w ls p len cap pt hl hw1 (by omega) (by simpa using htt) w0 hK hK2 hsl
  · by_cases he : rootE w ls = 0
    · exact pm_ok w ls p len cap pt (by omega) he w0 hK hK2 hsl
    · exact pm_err w ls p len cap pt (by omega) he w0 hK hK2 hsl

end Go.Proofs.YtcaffacganffjaaGreatDoor
end
