/- The walks of a part of the program: GLaw6a. Printed by a program of the prover. The walks of a part of the program: GLaw6m. Printed by a program of the prover. The walks of a part of the program: GLaw6r. Printed by a program of the prover. -/
import Derived.Test.YtcaffacganffjaaDoorM2
import Derived.Test.YtcaffacganffjaaDoorM6
import Derived.Test.YtcaffacganffjaaDoorM18
import Derived.Test.YtcaffacganffjaaDoorM14

section
namespace Go.Proofs.YtcaffacganffjaaDoor
open Go Go.Vg


set_option maxRecDepth 20000 in
set_option maxHeartbeats 1000000 in
theorem law06a_spec  (w0 : World) :
    Calls Tryd.prog 14 #[] w0 fun e w' => e = .returned (leafV aL) ∧ Ext w0 w' := by
  refine c_enter (n := 3) (args := []) Tryd.func14 rfl rfl (Nat.le_of_ble_eq_true rfl) rfl (fun a hT => ?_)
  simp only [List.zipIdx_cons, List.zipIdx_nil, List.map_cons, List.map_nil, Nat.reduceAdd] at hT
  have hL := Vg.Loc.refl [] w0
  refine c_seq ?_
  refine c_region ?_
  refine l_do rfl ?_
  refine w_alloc hT hL (by decide) Tryd.ty36 ?_; clear hT hL; intro b1 a w1 hT hL hE hB
  refine l_end ?_
  refine then_norm ?_
  refine c_seq ?_
  refine c_region ?_
  refine l_q hT (q_build (ps := [(0, .const (.int .u8 5))]) (pv := [(0, (v8 5))]) (v := .agg ([(v8 5)] ++ (List.replicate 31 (v8 0))).toArray) hT rfl (fun _ => by kernel_rfl)) rfl rfl (by decide) ?_; clear hT; intro a hT
  refine l_q hT (q_build (ps := [(1, .tmp 1)]) (pv := [(1, (Value.agg ([(v8 5)] ++ (List.replicate 31 (v8 0))).toArray))]) (v := .agg (digC Dig.zero ++ ([(v8 5)] ++ (List.replicate 31 (v8 0)))).toArray) hT rfl (fun _ => by kernel_rfl)) rfl rfl (by decide) ?_; clear hT; intro a hT
  refine l_do rfl ?_
  refine w_store hT hL 0 (c := digC Dig.zero ++ (digC Dig.zero)) rfl rfl Tryd.ty36 rfl (vs := digC Dig.zero ++ ([(v8 5)] ++ (List.replicate 31 (v8 0)))) rfl rfl (by first | decide | (simp [arr32_len, arr8_len, digC_len]; done) | (simp [arr32_len, arr8_len, digC_len]; omega)) rfl (c' := digC Dig.zero ++ ([(v8 5)] ++ (List.replicate 31 (v8 0)))) rfl ?_; clear hL; intro w2 hL hE
  replace hL : Vg.Loc [] w0 w2 ([[(b1, ob (digC Dig.zero ++ ([(v8 5)] ++ (List.replicate 31 (v8 0)))) 36)]]) := hL
  refine l_end ?_
  refine then_norm ?_
  refine wp_ret ?_
  refine c_ret (vs := [(Value.agg (digC Dig.zero ++ ([(v8 5)] ++ (List.replicate 31 (v8 0)))).toArray)]) (rs := [.cell 0 36]) hT rfl (.agg rfl Tryd.ty36 (hL.rd 0 rfl 0 (ds := digC Dig.zero ++ ([(v8 5)] ++ (List.replicate 31 (v8 0)))) rfl) rfl .nil) ?_
  exact ⟨rfl, hL.drop⟩

set_option maxRecDepth 20000 in
set_option maxHeartbeats 1000000 in
theorem law06b_spec  (w0 : World) :
    Calls Tryd.prog 15 #[] w0 fun e w' => e = .returned (leafV bL) ∧ Ext w0 w' := by
  refine c_enter (n := 4) (args := []) Tryd.func15 rfl rfl (Nat.le_of_ble_eq_true rfl) rfl (fun a hT => ?_)
  simp only [List.zipIdx_cons, List.zipIdx_nil, List.map_cons, List.map_nil, Nat.reduceAdd] at hT
  have hL := Vg.Loc.refl [] w0
  refine c_seq ?_
  refine c_region ?_
  refine l_do rfl ?_
  refine w_alloc hT hL (by decide) Tryd.ty36 ?_; clear hT hL; intro b1 a w1 hT hL hE hB
  refine l_end ?_
  refine then_norm ?_
  refine c_seq ?_
  refine c_region ?_
  refine l_q hT (q_build (ps := [(0, .const (.int .u8 128))]) (pv := [(0, (v8 128))]) (v := .agg ([(v8 128)] ++ (List.replicate 31 (v8 0))).toArray) hT rfl (fun _ => by kernel_rfl)) rfl rfl (by decide) ?_; clear hT; intro a hT
  refine l_q hT (q_build (ps := [(0, .const (.int .u8 6))]) (pv := [(0, (v8 6))]) (v := .agg ([(v8 6)] ++ (List.replicate 31 (v8 0))).toArray) hT rfl (fun _ => by kernel_rfl)) rfl rfl (by decide) ?_; clear hT; intro a hT
  refine l_q hT (q_build (ps := [(0, .tmp 1), (1, .tmp 2)]) (pv := [(0, (Value.agg ([(v8 128)] ++ (List.replicate 31 (v8 0))).toArray)), (1, (Value.agg ([(v8 6)] ++ (List.replicate 31 (v8 0))).toArray))]) (v := .agg ([(v8 128)] ++ (List.replicate 31 (v8 0) ++ ([(v8 6)] ++ (List.replicate 31 (v8 0))))).toArray) hT rfl (fun _ => by kernel_rfl)) rfl rfl (by decide) ?_; clear hT; intro a hT
  refine l_do rfl ?_
  refine w_store hT hL 0 (c := digC Dig.zero ++ (digC Dig.zero)) rfl rfl Tryd.ty36 rfl (vs := [(v8 128)] ++ (List.replicate 31 (v8 0) ++ ([(v8 6)] ++ (List.replicate 31 (v8 0))))) rfl rfl (by first | decide | (simp [arr32_len, arr8_len, digC_len]; done) | (simp [arr32_len, arr8_len, digC_len]; omega)) rfl (c' := [(v8 128)] ++ (List.replicate 31 (v8 0) ++ ([(v8 6)] ++ (List.replicate 31 (v8 0))))) rfl ?_; clear hL; intro w2 hL hE
  replace hL : Vg.Loc [] w0 w2 ([[(b1, ob ([(v8 128)] ++ (List.replicate 31 (v8 0) ++ ([(v8 6)] ++ (List.replicate 31 (v8 0))))) 36)]]) := hL
  refine l_end ?_
  refine then_norm ?_
  refine wp_ret ?_
  refine c_ret (vs := [(Value.agg ([(v8 128)] ++ (List.replicate 31 (v8 0) ++ ([(v8 6)] ++ (List.replicate 31 (v8 0))))).toArray)]) (rs := [.cell 0 36]) hT rfl (.agg rfl Tryd.ty36 (hL.rd 0 rfl 0 (ds := [(v8 128)] ++ (List.replicate 31 (v8 0) ++ ([(v8 6)] ++ (List.replicate 31 (v8 0))))) rfl) rfl .nil) ?_
  exact ⟨rfl, hL.drop⟩

theorem make_ab (p : Option Addr) (cap : Nat) (w0 : World) (hK : KeysAt w0) (hsl : SlT w0 p 2 64 leafC noLeaf [aL, bL]) : Calls Tryd.prog 5 #[vI 32, .slice p 2 cap, dv aL.p] w0 fun e w' =>
    ∃ g cps junk, e = .returned (.tuple #[.agg (claimC true aL.v).toArray, .agg (proofC (.slice (some ⟨g, 0, none⟩) 1 cps) false Dig.zero Dig.zero).toArray, vI 0]) ∧ Vg.Loc [] w0 w' [[(g, ob (digC (leafD 32 bL) ++ junk) 24)]] := by
  refine (make_ok 32 [aL, bL] p 2 cap aL.p (by decide) ab_root w0 hK hsl).mono ?_
  rintro e w' ⟨ps, cps, cs, he, hL, ho⟩
  rw [ab_go] at he ho
  obtain ⟨g, junk, rfl, rfl⟩ := ho.some (by decide)
  simp only [a_says] at he
  exact ⟨g, cps, junk, he, by simpa using hL⟩
theorem make_a (p : Option Addr) (cap : Nat) (w0 : World) (hK : KeysAt w0) (hsl : SlT w0 p 1 64 leafC noLeaf [aL]) : Calls Tryd.prog 5 #[vI 32, .slice p 1 cap, dv bL.p] w0 fun e w' =>
    ∃ ps cps, e = .returned (.tuple #[.agg (claimC false Dig.zero).toArray, .agg (proofC (.slice ps 0 cps) true aL.p aL.v).toArray, vI 0]) ∧ Ext w0 w' := by
  refine (make_ok 32 [aL] p 1 cap bL.p (by decide) a_root w0 hK hsl).mono ?_
  rintro e w' ⟨ps, cps, cs, he, hL, ho⟩
  rw [a_go] at he
  simp only [b_says] at he
  exact ⟨ps, cps, he, hL.drop⟩

end Go.Proofs.YtcaffacganffjaaDoor
end

section
namespace Go.Proofs.YtcaffacganffjaaDoor
open Go Go.Vg


set_option maxRecDepth 100000 in
set_option maxHeartbeats 4000000 in
theorem makes_spec  (w0 : World) (hK : KeysAt w0) :
    Calls Tryd.prog 6 #[] w0 fun e w' => e = .returned (.bool true) ∧ Ext w0 w' := by
  refine c_enter (n := 80) (args := []) Tryd.func6 rfl rfl (Nat.le_of_ble_eq_true rfl) rfl (fun a hT => ?_)
  simp only [List.zipIdx_cons, List.zipIdx_nil, List.map_cons, List.map_nil, Nat.reduceAdd] at hT
  have hL := Vg.Loc.refl [] w0
  refine c_seq ?_
  refine c_region ?_
  refine l_q hT (q_assign hT rfl) rfl rfl (by decide) ?_; clear hT; intro a hT
  refine l_end ?_
  refine then_norm ?_
  refine c_seq ?_
  refine c_region ?_
  refine l_do rfl ?_
  refine w_callT (xs := []) hT rfl (vs := []) rfl (args := #[]) rfl Tryd.func14 rfl rfl (by decide) ((law06a_spec _).mono ?_)
  rintro e w1 ⟨rfl, hX⟩
  refine ⟨_, rfl, ?_⟩; clear hT; intro a hT; replace hT : Tm 80 a ((8, (Value.agg (digC aL.p ++ (digC aL.v)).toArray)) :: _) := hT
  replace hL := hL.ext hX
  refine l_do rfl ?_
  refine w_callT (xs := []) hT rfl (vs := []) rfl (args := #[]) rfl Tryd.func15 rfl rfl (by decide) ((law06b_spec _).mono ?_)
  rintro e w2 ⟨rfl, hX⟩
  refine ⟨_, rfl, ?_⟩; clear hT; intro a hT; replace hT : Tm 80 a ((9, (Value.agg (digC bL.p ++ (digC bL.v)).toArray)) :: _) := hT
  replace hL := hL.ext hX
  refine l_do rfl ?_
  refine w_buildSlice (e := 36) (ps := [(0, .tmp 8), (1, .tmp 9)]) (pv := [(0, (Value.agg (digC aL.p ++ (digC aL.v)).toArray)), (1, (Value.agg (digC bL.p ++ (digC bL.v)).toArray))]) (c := digC aL.p ++ (digC aL.v ++ (digC bL.p ++ (digC bL.v)))) hT hL (by decide) rfl (fun _ => by kernel_rfl) ?_; clear hT hL; intro b1 a w3 hT hL hE hB
  refine l_do rfl ?_
  refine w_callT (xs := []) hT rfl (vs := []) rfl (args := #[]) rfl Tryd.func14 rfl rfl (by decide) ((law06a_spec _).mono ?_)
  rintro e w4 ⟨rfl, hX⟩
  refine ⟨_, rfl, ?_⟩; clear hT; intro a hT; replace hT : Tm 80 a ((11, (Value.agg (digC aL.p ++ (digC aL.v)).toArray)) :: _) := hT
  replace hL := hL.ext hX
  refine l_q hT (q_field_agg (cs := digC aL.p ++ (digC aL.v)) (ds := digC aL.p) hT rfl Tryd.fld36_0 rfl) rfl rfl (by decide) ?_; clear hT; intro a hT
  refine l_do rfl ?_
  refine w_callT (xs := [.const (.int .i64 32), .tmp 10, .tmp 12]) hT rfl (vs := [(vI 32), (Value.slice (some ⟨b1, 0, none⟩) 2 2), (Value.agg (digC aL.p).toArray)]) rfl (args := #[(vI 32), (Value.slice (some ⟨b1, 0, none⟩) 2 2), (Value.agg (digC aL.p).toArray)]) rfl Tryd.func5 rfl rfl (by decide) ((make_ab (some ⟨b1, 0, none⟩) 2 _ (hK.of hL (by simp)) (SlT.flat (d0 := noLeaf) leafC_len (hL.rd 0 rfl 0 (ds := ([aL, bL] : List Leaf).flatMap leafC) rfl))).mono ?_)
  rintro e w5 ⟨gs1, cps1, jk1, rfl, hX⟩
  refine ⟨_, rfl, ?_⟩; clear hT; intro a hT; replace hT : Tm 80 a ((13, (Value.tuple #[(Value.agg ([(Value.bool true)] ++ (digC aL.v)).toArray), (Value.agg ([(Value.slice (some ⟨gs1, 0, none⟩) 1 cps1), (Value.bool false)] ++ (digC Dig.zero ++ (digC Dig.zero))).toArray), (vI 0)])) :: _) := hT
  replace hL : Vg.Loc [] w0 w5 ([[(gs1, ob (digC (leafD 32 bL) ++ (jk1)) 24)], [(b1, ob (digC aL.p ++ (digC aL.v ++ (digC bL.p ++ (digC bL.v)))) 36)]]) := hL.exts hX
  refine l_q hT (q_move hT rfl) rfl rfl (by decide) ?_; clear hT; intro a hT
  refine l_q hT (q_extract hT rfl rfl) rfl rfl (by decide) ?_; clear hT; intro a hT
  refine l_q hT (q_extract hT rfl rfl) rfl rfl (by decide) ?_; clear hT; intro a hT
  refine l_q hT (q_extract hT rfl rfl) rfl rfl (by decide) ?_; clear hT; intro a hT
  refine l_do rfl ?_
  refine w_alloc hT hL (by decide) Tryd.ty26 ?_; clear hT hL; intro b2 a w6 hT hL hE hB
  refine l_do rfl ?_
  refine w_alloc hT hL (by decide) Tryd.ty29 ?_; clear hT hL; intro b3 a w7 hT hL hE hB
  refine l_do rfl ?_
  refine w_store hT hL 1 (c := [(Value.bool false)] ++ (digC Dig.zero)) rfl rfl Tryd.ty26 rfl (vs := [(Value.bool true)] ++ (digC aL.v)) rfl rfl (by first | decide | (simp [arr32_len, arr8_len, digC_len]; done) | (simp [arr32_len, arr8_len, digC_len]; omega)) rfl (c' := [(Value.bool true)] ++ (digC aL.v)) rfl ?_; clear hL; intro w8 hL hE
  replace hL : Vg.Loc [] w0 w8 ([[(b3, ob ([(Value.slice none 0 0), (Value.bool false)] ++ (digC Dig.zero ++ (digC Dig.zero))) 29)], [(b2, ob ([(Value.bool true)] ++ (digC aL.v)) 26)], [(gs1, ob (digC (leafD 32 bL) ++ (jk1)) 24)], [(b1, ob (digC aL.p ++ (digC aL.v ++ (digC bL.p ++ (digC bL.v)))) 36)]]) := hL
  refine l_do rfl ?_
  refine w_store hT hL 0 (c := [(Value.slice none 0 0), (Value.bool false)] ++ (digC Dig.zero ++ (digC Dig.zero))) rfl rfl Tryd.ty29 rfl (vs := [(Value.slice (some ⟨gs1, 0, none⟩) 1 cps1), (Value.bool false)] ++ (digC Dig.zero ++ (digC Dig.zero))) rfl rfl (by first | decide | (simp [arr32_len, arr8_len, digC_len]; done) | (simp [arr32_len, arr8_len, digC_len]; omega)) rfl (c' := [(Value.slice (some ⟨gs1, 0, none⟩) 1 cps1), (Value.bool false)] ++ (digC Dig.zero ++ (digC Dig.zero))) rfl ?_; clear hL; intro w9 hL hE
  replace hL : Vg.Loc [] w0 w9 ([[(b3, ob ([(Value.slice (some ⟨gs1, 0, none⟩) 1 cps1), (Value.bool false)] ++ (digC Dig.zero ++ (digC Dig.zero))) 29)], [(b2, ob ([(Value.bool true)] ++ (digC aL.v)) 26)], [(gs1, ob (digC (leafD 32 bL) ++ (jk1)) 24)], [(b1, ob (digC aL.p ++ (digC aL.v ++ (digC bL.p ++ (digC bL.v)))) 36)]]) := hL
  refine l_q hT (q_assign hT rfl) rfl rfl (by decide) ?_; clear hT; intro a hT
  refine l_end ?_
  refine then_norm ?_
  refine c_seq ?_
  refine c_region ?_
  refine l_do rfl ?_
  refine w_callT (xs := []) hT rfl (vs := []) rfl (args := #[]) rfl Tryd.func14 rfl rfl (by decide) ((law06a_spec _).mono ?_)
  rintro e w10 ⟨rfl, hX⟩
  refine ⟨_, rfl, ?_⟩; clear hT; intro a hT; replace hT : Tm 80 a ((18, (Value.agg (digC aL.p ++ (digC aL.v)).toArray)) :: _) := hT
  replace hL := hL.ext hX
  refine l_do rfl ?_
  refine w_buildSlice (e := 36) (ps := [(0, .tmp 18)]) (pv := [(0, (Value.agg (digC aL.p ++ (digC aL.v)).toArray))]) (c := digC aL.p ++ (digC aL.v)) hT hL (by decide) rfl (fun _ => by kernel_rfl) ?_; clear hT hL; intro b4 a w11 hT hL hE hB
  refine l_do rfl ?_
  refine w_callT (xs := []) hT rfl (vs := []) rfl (args := #[]) rfl Tryd.func15 rfl rfl (by decide) ((law06b_spec _).mono ?_)
  rintro e w12 ⟨rfl, hX⟩
  refine ⟨_, rfl, ?_⟩; clear hT; intro a hT; replace hT : Tm 80 a ((20, (Value.agg (digC bL.p ++ (digC bL.v)).toArray)) :: _) := hT
  replace hL := hL.ext hX
  refine l_q hT (q_field_agg (cs := digC bL.p ++ (digC bL.v)) (ds := digC bL.p) hT rfl Tryd.fld36_0 rfl) rfl rfl (by decide) ?_; clear hT; intro a hT
  refine l_do rfl ?_
  refine w_callT (xs := [.const (.int .i64 32), .tmp 19, .tmp 21]) hT rfl (vs := [(vI 32), (Value.slice (some ⟨b4, 0, none⟩) 1 1), (Value.agg (digC bL.p).toArray)]) rfl (args := #[(vI 32), (Value.slice (some ⟨b4, 0, none⟩) 1 1), (Value.agg (digC bL.p).toArray)]) rfl Tryd.func5 rfl rfl (by decide) ((make_a (some ⟨b4, 0, none⟩) 1 _ (hK.of hL (by simp)) (SlT.flat (d0 := noLeaf) leafC_len (hL.rd 0 rfl 0 (ds := ([aL] : List Leaf).flatMap leafC) rfl))).mono ?_)
  rintro e w13 ⟨ps1, cps2, rfl, hX⟩
  refine ⟨_, rfl, ?_⟩; clear hT; intro a hT; replace hT : Tm 80 a ((22, (Value.tuple #[(Value.agg ([(Value.bool false)] ++ (digC Dig.zero)).toArray), (Value.agg ([(Value.slice ps1 0 cps2), (Value.bool true)] ++ (digC aL.p ++ (digC aL.v))).toArray), (vI 0)])) :: _) := hT
  replace hL := hL.ext hX
  refine l_q hT (q_move hT rfl) rfl rfl (by decide) ?_; clear hT; intro a hT
  refine l_q hT (q_extract hT rfl rfl) rfl rfl (by decide) ?_; clear hT; intro a hT
  refine l_q hT (q_extract hT rfl rfl) rfl rfl (by decide) ?_; clear hT; intro a hT
  refine l_q hT (q_extract hT rfl rfl) rfl rfl (by decide) ?_; clear hT; intro a hT
  refine l_do rfl ?_
  refine w_alloc hT hL (by decide) Tryd.ty26 ?_; clear hT hL; intro b5 a w14 hT hL hE hB
  refine l_do rfl ?_
  refine w_alloc hT hL (by decide) Tryd.ty29 ?_; clear hT hL; intro b6 a w15 hT hL hE hB
  refine l_do rfl ?_
  refine w_store hT hL 1 (c := [(Value.bool false)] ++ (digC Dig.zero)) rfl rfl Tryd.ty26 rfl (vs := [(Value.bool false)] ++ (digC Dig.zero)) rfl rfl (by first | decide | (simp [arr32_len, arr8_len, digC_len]; done) | (simp [arr32_len, arr8_len, digC_len]; omega)) rfl (c' := [(Value.bool false)] ++ (digC Dig.zero)) rfl ?_; clear hL; intro w16 hL hE
  replace hL : Vg.Loc [] w0 w16 ([[(b6, ob ([(Value.slice none 0 0), (Value.bool false)] ++ (digC Dig.zero ++ (digC Dig.zero))) 29)], [(b5, ob ([(Value.bool false)] ++ (digC Dig.zero)) 26)], [(b4, ob (digC aL.p ++ (digC aL.v)) 36)], [(b3, ob ([(Value.slice (some ⟨gs1, 0, none⟩) 1 cps1), (Value.bool false)] ++ (digC Dig.zero ++ (digC Dig.zero))) 29)], [(b2, ob ([(Value.bool true)] ++ (digC aL.v)) 26)], [(gs1, ob (digC (leafD 32 bL) ++ (jk1)) 24)], [(b1, ob (digC aL.p ++ (digC aL.v ++ (digC bL.p ++ (digC bL.v)))) 36)]]) := hL
  refine l_do rfl ?_
  refine w_store hT hL 0 (c := [(Value.slice none 0 0), (Value.bool false)] ++ (digC Dig.zero ++ (digC Dig.zero))) rfl rfl Tryd.ty29 rfl (vs := [(Value.slice ps1 0 cps2), (Value.bool true)] ++ (digC aL.p ++ (digC aL.v))) rfl rfl (by first | decide | (simp [arr32_len, arr8_len, digC_len]; done) | (simp [arr32_len, arr8_len, digC_len]; omega)) rfl (c' := [(Value.slice ps1 0 cps2), (Value.bool true)] ++ (digC aL.p ++ (digC aL.v))) rfl ?_; clear hL; intro w17 hL hE
  replace hL : Vg.Loc [] w0 w17 ([[(b6, ob ([(Value.slice ps1 0 cps2), (Value.bool true)] ++ (digC aL.p ++ (digC aL.v))) 29)], [(b5, ob ([(Value.bool false)] ++ (digC Dig.zero)) 26)], [(b4, ob (digC aL.p ++ (digC aL.v)) 36)], [(b3, ob ([(Value.slice (some ⟨gs1, 0, none⟩) 1 cps1), (Value.bool false)] ++ (digC Dig.zero ++ (digC Dig.zero))) 29)], [(b2, ob ([(Value.bool true)] ++ (digC aL.v)) 26)], [(gs1, ob (digC (leafD 32 bL) ++ (jk1)) 24)], [(b1, ob (digC aL.p ++ (digC aL.v ++ (digC bL.p ++ (digC bL.v)))) 36)]]) := hL
  refine l_q hT (q_assign hT rfl) rfl rfl (by decide) ?_; clear hT; intro a hT
  refine l_end ?_
  refine then_norm ?_
  refine c_seq ?_
  refine d_start' hL #[false, false, false, false, false, false, false, false, false, false, false, false, false, false, false, false, false, false, false, false, false, false, false, false, false, false, false, false, false, false, false, false, false, false, false, false, false, false, false, false, false, false, false, false, false, false, false, false, false, false, false, false, false, false, false] [] rfl rfl rfl ?_; clear hL; intro w18 hL hE; have hR := hL; have hS := Ext.refl w18
  refine d_pure (i := 0) hT #[true, false, false, false, false, false, false, false, false, false, false, false, false, false, false, false, false, false, false, false, false, false, false, false, false, false, false, false, false, false, false, false, false, false, false, false, false, false, false, false, false, false, false, false, false, false, false, false, false, false, false, false, false, false, false] rfl (by kernel_rfl) rfl rfl (by decide) (fun _ _ _ h => h) (fun _ => q_move hT rfl) ?_; clear hT; intro a hT
  refine d_pure (i := 1) hT #[true, true, false, false, false, false, false, false, false, false, false, false, false, false, false, false, false, false, false, false, false, false, false, false, false, false, false, false, false, false, false, false, false, false, false, false, false, false, false, false, false, false, false, false, false, false, false, false, false, false, false, false, false, false, false] rfl (by kernel_rfl) rfl rfl (by decide) (fun _ _ _ h => h) (fun _ => (q_eql hT rfl rfl).b (b := true) rfl) ?_; clear hT; intro a hT
  refine d_pure (i := 2) hT #[true, true, true, false, false, false, false, false, false, false, false, false, false, false, false, false, false, false, false, false, false, false, false, false, false, false, false, false, false, false, false, false, false, false, false, false, false, false, false, false, false, false, false, false, false, false, false, false, false, false, false, false, false, false, false] rfl (by kernel_rfl) rfl rfl (by decide) (fun _ _ _ h => h) (fun _ => q_move hT rfl) ?_; clear hT; intro a hT
  refine d_pure (i := 3) hT #[true, true, true, true, false, false, false, false, false, false, false, false, false, false, false, false, false, false, false, false, false, false, false, false, false, false, false, false, false, false, false, false, false, false, false, false, false, false, false, false, false, false, false, false, false, false, false, false, false, false, false, false, false, false, false] rfl (by kernel_rfl) rfl rfl (by decide) (fun _ _ _ h => h) (fun _ => q_fieldAddr hT rfl Tryd.fld26_0 rfl) ?_; clear hT; intro a hT
  refine d_take (i := 4) hT #[true, true, true, true, true, false, false, false, false, false, false, false, false, false, false, false, false, false, false, false, false, false, false, false, false, false, false, false, false, false, false, false, false, false, false, false, false, false, false, false, false, false, false, false, false, false, false, false, false, false, false, false, false, false, false] rfl (by kernel_rfl) rfl rfl (by decide) (fun _ _ _ h => h) (fun _ hs => q_load hT rfl Tryd.ty4 (Rd.ext (hR.rd 4 rfl 0 (ds := [(Value.bool true)]) rfl) hs)) hS ?_; clear hT; intro a hT
  refine d_pure (i := 5) hT #[true, true, true, true, true, true, false, false, false, false, false, false, false, false, false, false, false, false, false, false, false, false, false, false, false, false, false, false, false, false, false, false, false, false, false, false, false, false, false, false, false, false, false, false, false, false, false, false, false, false, false, false, false, false, false] rfl (by kernel_rfl) rfl rfl (by decide) (fun _ _ _ h => h) (fun _ => (q_pick hT rfl rfl rfl).v (v := (Value.bool true)) rfl) ?_; clear hT; intro a hT
  refine d_pure (i := 6) hT #[true, true, true, true, true, true, true, false, false, false, false, false, false, false, false, false, false, false, false, false, false, false, false, false, false, false, false, false, false, false, false, false, false, false, false, false, false, false, false, false, false, false, false, false, false, false, false, false, false, false, false, false, false, false, false] rfl (by kernel_rfl) rfl rfl (by decide) (fun _ _ _ h => h) (fun _ => q_move hT rfl) ?_; clear hT; intro a hT
  refine d_pure (i := 7) hT #[true, true, true, true, true, true, true, true, false, false, false, false, false, false, false, false, false, false, false, false, false, false, false, false, false, false, false, false, false, false, false, false, false, false, false, false, false, false, false, false, false, false, false, false, false, false, false, false, false, false, false, false, false, false, false] rfl (by kernel_rfl) rfl rfl (by decide) (fun _ _ _ h => h) (fun _ => q_fieldAddr hT rfl Tryd.fld26_1 rfl) ?_; clear hT; intro a hT
  refine d_take (i := 8) hT #[true, true, true, true, true, true, true, true, true, false, false, false, false, false, false, false, false, false, false, false, false, false, false, false, false, false, false, false, false, false, false, false, false, false, false, false, false, false, false, false, false, false, false, false, false, false, false, false, false, false, false, false, false, false, false] rfl (by kernel_rfl) rfl rfl (by decide) (fun _ _ _ h => h) (fun _ hs => q_load_agg hT rfl Tryd.ty24 (Rd.ext (hR.rd 4 rfl 1 (ds := digC aL.v) rfl) hs) rfl) hS ?_; clear hT; intro a hT
  refine d_one (i := 9) hT #[true, true, true, true, true, true, true, true, true, true, false, false, false, false, false, false, false, false, false, false, false, false, false, false, false, false, false, false, false, false, false, false, false, false, false, false, false, false, false, false, false, false, false, false, false, false, false, false, false, false, false, false, false, false, false] rfl (by kernel_rfl) rfl ?_
  refine w_callT (xs := []) hT rfl (vs := []) rfl (args := #[]) rfl Tryd.func14 rfl rfl (by decide) ((law06a_spec _).mono ?_)
  rintro e w19 ⟨rfl, hX⟩
  refine ⟨_, rfl, ?_⟩; clear hT; intro a hT; replace hT : Tm 80 a ((35, (Value.agg (digC aL.p ++ (digC aL.v)).toArray)) :: _) := hT
  replace hL := hL.ext hX
  replace hS := Vg.Loc.ext hS hX; refine ⟨fun _ => hS, ?_⟩
  refine d_pure (i := 10) hT #[true, true, true, true, true, true, true, true, true, true, true, false, false, false, false, false, false, false, false, false, false, false, false, false, false, false, false, false, false, false, false, false, false, false, false, false, false, false, false, false, false, false, false, false, false, false, false, false, false, false, false, false, false, false, false] rfl (by kernel_rfl) rfl rfl (by decide) (fun _ _ _ h => h) (fun _ => q_field_agg (cs := digC aL.p ++ (digC aL.v)) (ds := digC aL.v) hT rfl Tryd.fld36_1 rfl) ?_; clear hT; intro a hT
  refine d_pure (i := 11) hT #[true, true, true, true, true, true, true, true, true, true, true, true, false, false, false, false, false, false, false, false, false, false, false, false, false, false, false, false, false, false, false, false, false, false, false, false, false, false, false, false, false, false, false, false, false, false, false, false, false, false, false, false, false, false, false] rfl (by kernel_rfl) rfl rfl (by decide) (fun _ _ _ h => h) (fun _ => (q_eq_agg hT rfl rfl Tryd.eqg24 (EqR.dig Tryd.arr24 Tryd.underlying5 aL.v aL.v) (by decide)).b (b := true) (by simp)) ?_; clear hT; intro a hT
  refine d_pure (i := 12) hT #[true, true, true, true, true, true, true, true, true, true, true, true, true, false, false, false, false, false, false, false, false, false, false, false, false, false, false, false, false, false, false, false, false, false, false, false, false, false, false, false, false, false, false, false, false, false, false, false, false, false, false, false, false, false, false] rfl (by kernel_rfl) rfl rfl (by decide) (fun _ _ _ h => h) (fun _ => (q_pick hT rfl rfl rfl).v (v := (Value.bool true)) rfl) ?_; clear hT; intro a hT
  refine d_pure (i := 13) hT #[true, true, true, true, true, true, true, true, true, true, true, true, true, true, false, false, false, false, false, false, false, false, false, false, false, false, false, false, false, false, false, false, false, false, false, false, false, false, false, false, false, false, false, false, false, false, false, false, false, false, false, false, false, false, false] rfl (by kernel_rfl) rfl rfl (by decide) (fun _ _ _ h => h) (fun _ => q_move hT rfl) ?_; clear hT; intro a hT
  refine d_pure (i := 14) hT #[true, true, true, true, true, true, true, true, true, true, true, true, true, true, true, false, false, false, false, false, false, false, false, false, false, false, false, false, false, false, false, false, false, false, false, false, false, false, false, false, false, false, false, false, false, false, false, false, false, false, false, false, false, false, false] rfl (by kernel_rfl) rfl rfl (by decide) (fun _ _ _ h => h) (fun _ => q_fieldAddr hT rfl Tryd.fld29_0 rfl) ?_; clear hT; intro a hT
  refine d_take (i := 15) hT #[true, true, true, true, true, true, true, true, true, true, true, true, true, true, true, true, false, false, false, false, false, false, false, false, false, false, false, false, false, false, false, false, false, false, false, false, false, false, false, false, false, false, false, false, false, false, false, false, false, false, false, false, false, false, false] rfl (by kernel_rfl) rfl rfl (by decide) (fun _ _ _ h => h) (fun _ hs => q_load hT rfl Tryd.ty27 (Rd.ext (hR.rd 3 rfl 0 (ds := [(Value.slice (some ⟨gs1, 0, none⟩) 1 cps1)]) rfl) hs)) hS ?_; clear hT; intro a hT
  refine d_pure (i := 16) hT #[true, true, true, true, true, true, true, true, true, true, true, true, true, true, true, true, true, false, false, false, false, false, false, false, false, false, false, false, false, false, false, false, false, false, false, false, false, false, false, false, false, false, false, false, false, false, false, false, false, false, false, false, false, false, false] rfl (by kernel_rfl) rfl rfl (by decide) (fun _ _ _ h => h) (fun _ => q_len_slice hT rfl Tryd.underlying27) ?_; clear hT; intro a hT
  refine d_pure (i := 17) hT #[true, true, true, true, true, true, true, true, true, true, true, true, true, true, true, true, true, true, false, false, false, false, false, false, false, false, false, false, false, false, false, false, false, false, false, false, false, false, false, false, false, false, false, false, false, false, false, false, false, false, false, false, false, false, false] rfl (by kernel_rfl) rfl rfl (by decide) (fun _ _ _ h => h) (fun _ => (q_eql hT rfl rfl).b (b := true) rfl) ?_; clear hT; intro a hT
  refine d_pure (i := 18) hT #[true, true, true, true, true, true, true, true, true, true, true, true, true, true, true, true, true, true, true, false, false, false, false, false, false, false, false, false, false, false, false, false, false, false, false, false, false, false, false, false, false, false, false, false, false, false, false, false, false, false, false, false, false, false, false] rfl (by kernel_rfl) rfl rfl (by decide) (fun _ _ _ h => h) (fun _ => (q_pick hT rfl rfl rfl).v (v := (Value.bool true)) rfl) ?_; clear hT; intro a hT
  refine d_pure (i := 19) hT #[true, true, true, true, true, true, true, true, true, true, true, true, true, true, true, true, true, true, true, true, false, false, false, false, false, false, false, false, false, false, false, false, false, false, false, false, false, false, false, false, false, false, false, false, false, false, false, false, false, false, false, false, false, false, false] rfl (by kernel_rfl) rfl rfl (by decide) (fun _ _ _ h => h) (fun _ => q_move hT rfl) ?_; clear hT; intro a hT
  refine d_pure (i := 20) hT #[true, true, true, true, true, true, true, true, true, true, true, true, true, true, true, true, true, true, true, true, true, false, false, false, false, false, false, false, false, false, false, false, false, false, false, false, false, false, false, false, false, false, false, false, false, false, false, false, false, false, false, false, false, false, false] rfl (by kernel_rfl) rfl rfl (by decide) (fun _ _ _ h => h) (fun _ => q_fieldAddr hT rfl Tryd.fld29_0 rfl) ?_; clear hT; intro a hT
  refine d_take (i := 21) hT #[true, true, true, true, true, true, true, true, true, true, true, true, true, true, true, true, true, true, true, true, true, true, false, false, false, false, false, false, false, false, false, false, false, false, false, false, false, false, false, false, false, false, false, false, false, false, false, false, false, false, false, false, false, false, false] rfl (by kernel_rfl) rfl rfl (by decide) (fun _ _ _ h => h) (fun _ hs => q_load hT rfl Tryd.ty27 (Rd.ext (hR.rd 3 rfl 0 (ds := [(Value.slice (some ⟨gs1, 0, none⟩) 1 cps1)]) rfl) hs)) hS ?_; clear hT; intro a hT
  refine d_pure (i := 22) hT #[true, true, true, true, true, true, true, true, true, true, true, true, true, true, true, true, true, true, true, true, true, true, true, false, false, false, false, false, false, false, false, false, false, false, false, false, false, false, false, false, false, false, false, false, false, false, false, false, false, false, false, false, false, false, false] rfl (by kernel_rfl) rfl rfl (by decide) (fun _ _ _ h => h) (fun _ => (q_indexAddr hT rfl rfl Tryd.sli27 (by omega) (by omega)).v (v := vp gs1 0) rfl) ?_; clear hT; intro a hT
  refine d_take (i := 23) hT #[true, true, true, true, true, true, true, true, true, true, true, true, true, true, true, true, true, true, true, true, true, true, true, true, false, false, false, false, false, false, false, false, false, false, false, false, false, false, false, false, false, false, false, false, false, false, false, false, false, false, false, false, false, false, false] rfl (by kernel_rfl) rfl rfl (by decide) (fun _ _ _ h => h) (fun _ hs => q_load_agg hT rfl Tryd.ty24 (Rd.ext (hR.rd 5 rfl 0 (ds := digC (leafD 32 bL)) rfl) hs) rfl) hS ?_; clear hT; intro a hT
  refine d_one (i := 24) hT #[true, true, true, true, true, true, true, true, true, true, true, true, true, true, true, true, true, true, true, true, true, true, true, true, true, false, false, false, false, false, false, false, false, false, false, false, false, false, false, false, false, false, false, false, false, false, false, false, false, false, false, false, false, false, false] rfl (by kernel_rfl) rfl ?_
  refine w_callT (xs := []) hT rfl (vs := []) rfl (args := #[]) rfl Tryd.func15 rfl rfl (by decide) ((law06b_spec _).mono ?_)
  rintro e w20 ⟨rfl, hX⟩
  refine ⟨_, rfl, ?_⟩; clear hT; intro a hT; replace hT : Tm 80 a ((50, (Value.agg (digC bL.p ++ (digC bL.v)).toArray)) :: _) := hT
  replace hL := hL.ext hX
  replace hS := Vg.Loc.ext hS hX; refine ⟨fun _ => hS, ?_⟩
  refine d_one (i := 25) hT #[true, true, true, true, true, true, true, true, true, true, true, true, true, true, true, true, true, true, true, true, true, true, true, true, true, true, false, false, false, false, false, false, false, false, false, false, false, false, false, false, false, false, false, false, false, false, false, false, false, false, false, false, false, false, false] rfl (by kernel_rfl) rfl ?_
  refine w_callT (xs := [.const (.int .i64 32), .tmp 50]) hT rfl (vs := [(vI 32), (Value.agg (digC bL.p ++ (digC bL.v)).toArray)]) rfl (args := #[(vI 32), (Value.agg (digC bL.p ++ (digC bL.v)).toArray)]) rfl Tryd.func16 rfl rfl (by decide) ((Leaf_spec (32) bL _ (hK.of hL (by simp))).mono ?_)
  rintro e w21 ⟨rfl, hX⟩
  refine ⟨_, rfl, ?_⟩; clear hT; intro a hT; replace hT : Tm 80 a ((51, (Value.agg (digC (leafD 32 bL)).toArray)) :: _) := hT
  replace hL := hL.ext hX
  replace hS := Vg.Loc.ext hS hX; refine ⟨fun _ => hS, ?_⟩
  refine d_pure (i := 26) hT #[true, true, true, true, true, true, true, true, true, true, true, true, true, true, true, true, true, true, true, true, true, true, true, true, true, true, true, false, false, false, false, false, false, false, false, false, false, false, false, false, false, false, false, false, false, false, false, false, false, false, false, false, false, false, false] rfl (by kernel_rfl) rfl rfl (by decide) (fun _ _ _ h => h) (fun _ => (q_eq_agg hT rfl rfl Tryd.eqg24 (EqR.dig Tryd.arr24 Tryd.underlying5 (leafD 32 bL) (leafD 32 bL)) (by decide)).b (b := true) (by simp)) ?_; clear hT; intro a hT
  refine d_pure (i := 27) hT #[true, true, true, true, true, true, true, true, true, true, true, true, true, true, true, true, true, true, true, true, true, true, true, true, true, true, true, true, false, false, false, false, false, false, false, false, false, false, false, false, false, false, false, false, false, false, false, false, false, false, false, false, false, false, false] rfl (by kernel_rfl) rfl rfl (by decide) (fun _ _ _ h => h) (fun _ => (q_pick hT rfl rfl rfl).v (v := (Value.bool true)) rfl) ?_; clear hT; intro a hT
  refine d_pure (i := 28) hT #[true, true, true, true, true, true, true, true, true, true, true, true, true, true, true, true, true, true, true, true, true, true, true, true, true, true, true, true, true, false, false, false, false, false, false, false, false, false, false, false, false, false, false, false, false, false, false, false, false, false, false, false, false, false, false] rfl (by kernel_rfl) rfl rfl (by decide) (fun _ _ _ h => h) (fun _ => q_move hT rfl) ?_; clear hT; intro a hT
  refine d_pure (i := 29) hT #[true, true, true, true, true, true, true, true, true, true, true, true, true, true, true, true, true, true, true, true, true, true, true, true, true, true, true, true, true, true, false, false, false, false, false, false, false, false, false, false, false, false, false, false, false, false, false, false, false, false, false, false, false, false, false] rfl (by kernel_rfl) rfl rfl (by decide) (fun _ _ _ h => h) (fun _ => q_move hT rfl) ?_; clear hT; intro a hT
  refine d_pure (i := 30) hT #[true, true, true, true, true, true, true, true, true, true, true, true, true, true, true, true, true, true, true, true, true, true, true, true, true, true, true, true, true, true, true, false, false, false, false, false, false, false, false, false, false, false, false, false, false, false, false, false, false, false, false, false, false, false, false] rfl (by kernel_rfl) rfl rfl (by decide) (fun _ _ _ h => h) (fun _ => (q_eql hT rfl rfl).b (b := true) rfl) ?_; clear hT; intro a hT
  refine d_pure (i := 31) hT #[true, true, true, true, true, true, true, true, true, true, true, true, true, true, true, true, true, true, true, true, true, true, true, true, true, true, true, true, true, true, true, true, false, false, false, false, false, false, false, false, false, false, false, false, false, false, false, false, false, false, false, false, false, false, false] rfl (by kernel_rfl) rfl rfl (by decide) (fun _ _ _ h => h) (fun _ => (q_pick hT rfl rfl rfl).v (v := (Value.bool true)) rfl) ?_; clear hT; intro a hT
  refine d_pure (i := 32) hT #[true, true, true, true, true, true, true, true, true, true, true, true, true, true, true, true, true, true, true, true, true, true, true, true, true, true, true, true, true, true, true, true, true, false, false, false, false, false, false, false, false, false, false, false, false, false, false, false, false, false, false, false, false, false, false] rfl (by kernel_rfl) rfl rfl (by decide) (fun _ _ _ h => h) (fun _ => q_move hT rfl) ?_; clear hT; intro a hT
  refine d_pure (i := 33) hT #[true, true, true, true, true, true, true, true, true, true, true, true, true, true, true, true, true, true, true, true, true, true, true, true, true, true, true, true, true, true, true, true, true, true, false, false, false, false, false, false, false, false, false, false, false, false, false, false, false, false, false, false, false, false, false] rfl (by kernel_rfl) rfl rfl (by decide) (fun _ _ _ h => h) (fun _ => q_fieldAddr hT rfl Tryd.fld26_0 rfl) ?_; clear hT; intro a hT
  refine d_take (i := 34) hT #[true, true, true, true, true, true, true, true, true, true, true, true, true, true, true, true, true, true, true, true, true, true, true, true, true, true, true, true, true, true, true, true, true, true, true, false, false, false, false, false, false, false, false, false, false, false, false, false, false, false, false, false, false, false, false] rfl (by kernel_rfl) rfl rfl (by decide) (fun _ _ _ h => h) (fun _ hs => q_load hT rfl Tryd.ty4 (Rd.ext (hR.rd 1 rfl 0 (ds := [(Value.bool false)]) rfl) hs)) hS ?_; clear hT; intro a hT
  refine d_pure (i := 35) hT #[true, true, true, true, true, true, true, true, true, true, true, true, true, true, true, true, true, true, true, true, true, true, true, true, true, true, true, true, true, true, true, true, true, true, true, true, false, false, false, false, false, false, false, false, false, false, false, false, false, false, false, false, false, false, false] rfl (by kernel_rfl) rfl rfl (by decide) (fun _ _ _ h => h) (fun _ => (q_not hT rfl).b rfl) ?_; clear hT; intro a hT
  refine d_pure (i := 36) hT #[true, true, true, true, true, true, true, true, true, true, true, true, true, true, true, true, true, true, true, true, true, true, true, true, true, true, true, true, true, true, true, true, true, true, true, true, true, false, false, false, false, false, false, false, false, false, false, false, false, false, false, false, false, false, false] rfl (by kernel_rfl) rfl rfl (by decide) (fun _ _ _ h => h) (fun _ => (q_pick hT rfl rfl rfl).v (v := (Value.bool true)) rfl) ?_; clear hT; intro a hT
  refine d_pure (i := 37) hT #[true, true, true, true, true, true, true, true, true, true, true, true, true, true, true, true, true, true, true, true, true, true, true, true, true, true, true, true, true, true, true, true, true, true, true, true, true, true, false, false, false, false, false, false, false, false, false, false, false, false, false, false, false, false, false] rfl (by kernel_rfl) rfl rfl (by decide) (fun _ _ _ h => h) (fun _ => q_move hT rfl) ?_; clear hT; intro a hT
  refine d_pure (i := 38) hT #[true, true, true, true, true, true, true, true, true, true, true, true, true, true, true, true, true, true, true, true, true, true, true, true, true, true, true, true, true, true, true, true, true, true, true, true, true, true, true, false, false, false, false, false, false, false, false, false, false, false, false, false, false, false, false] rfl (by kernel_rfl) rfl rfl (by decide) (fun _ _ _ h => h) (fun _ => q_fieldAddr hT rfl Tryd.fld29_1 rfl) ?_; clear hT; intro a hT
  refine d_take (i := 39) hT #[true, true, true, true, true, true, true, true, true, true, true, true, true, true, true, true, true, true, true, true, true, true, true, true, true, true, true, true, true, true, true, true, true, true, true, true, true, true, true, true, false, false, false, false, false, false, false, false, false, false, false, false, false, false, false] rfl (by kernel_rfl) rfl rfl (by decide) (fun _ _ _ h => h) (fun _ hs => q_load hT rfl Tryd.ty4 (Rd.ext (hR.rd 0 rfl 1 (ds := [(Value.bool true)]) rfl) hs)) hS ?_; clear hT; intro a hT
  refine d_pure (i := 40) hT #[true, true, true, true, true, true, true, true, true, true, true, true, true, true, true, true, true, true, true, true, true, true, true, true, true, true, true, true, true, true, true, true, true, true, true, true, true, true, true, true, true, false, false, false, false, false, false, false, false, false, false, false, false, false, false] rfl (by kernel_rfl) rfl rfl (by decide) (fun _ _ _ h => h) (fun _ => (q_pick hT rfl rfl rfl).v (v := (Value.bool true)) rfl) ?_; clear hT; intro a hT
  refine d_pure (i := 41) hT #[true, true, true, true, true, true, true, true, true, true, true, true, true, true, true, true, true, true, true, true, true, true, true, true, true, true, true, true, true, true, true, true, true, true, true, true, true, true, true, true, true, true, false, false, false, false, false, false, false, false, false, false, false, false, false] rfl (by kernel_rfl) rfl rfl (by decide) (fun _ _ _ h => h) (fun _ => q_move hT rfl) ?_; clear hT; intro a hT
  refine d_pure (i := 42) hT #[true, true, true, true, true, true, true, true, true, true, true, true, true, true, true, true, true, true, true, true, true, true, true, true, true, true, true, true, true, true, true, true, true, true, true, true, true, true, true, true, true, true, true, false, false, false, false, false, false, false, false, false, false, false, false] rfl (by kernel_rfl) rfl rfl (by decide) (fun _ _ _ h => h) (fun _ => q_fieldAddr hT rfl Tryd.fld29_2 rfl) ?_; clear hT; intro a hT
  refine d_take (i := 43) hT #[true, true, true, true, true, true, true, true, true, true, true, true, true, true, true, true, true, true, true, true, true, true, true, true, true, true, true, true, true, true, true, true, true, true, true, true, true, true, true, true, true, true, true, true, false, false, false, false, false, false, false, false, false, false, false] rfl (by kernel_rfl) rfl rfl (by decide) (fun _ _ _ h => h) (fun _ hs => q_load_agg hT rfl Tryd.ty24 (Rd.ext (hR.rd 0 rfl 2 (ds := digC aL.p) rfl) hs) rfl) hS ?_; clear hT; intro a hT
  refine d_one (i := 44) hT #[true, true, true, true, true, true, true, true, true, true, true, true, true, true, true, true, true, true, true, true, true, true, true, true, true, true, true, true, true, true, true, true, true, true, true, true, true, true, true, true, true, true, true, true, true, false, false, false, false, false, false, false, false, false, false] rfl (by kernel_rfl) rfl ?_
  refine w_callT (xs := []) hT rfl (vs := []) rfl (args := #[]) rfl Tryd.func14 rfl rfl (by decide) ((law06a_spec _).mono ?_)
  rintro e w22 ⟨rfl, hX⟩
  refine ⟨_, rfl, ?_⟩; clear hT; intro a hT; replace hT : Tm 80 a ((70, (Value.agg (digC aL.p ++ (digC aL.v)).toArray)) :: _) := hT
  replace hL := hL.ext hX
  replace hS := Vg.Loc.ext hS hX; refine ⟨fun _ => hS, ?_⟩
  refine d_pure (i := 45) hT #[true, true, true, true, true, true, true, true, true, true, true, true, true, true, true, true, true, true, true, true, true, true, true, true, true, true, true, true, true, true, true, true, true, true, true, true, true, true, true, true, true, true, true, true, true, true, false, false, false, false, false, false, false, false, false] rfl (by kernel_rfl) rfl rfl (by decide) (fun _ _ _ h => h) (fun _ => q_field_agg (cs := digC aL.p ++ (digC aL.v)) (ds := digC aL.p) hT rfl Tryd.fld36_0 rfl) ?_; clear hT; intro a hT
  refine d_pure (i := 46) hT #[true, true, true, true, true, true, true, true, true, true, true, true, true, true, true, true, true, true, true, true, true, true, true, true, true, true, true, true, true, true, true, true, true, true, true, true, true, true, true, true, true, true, true, true, true, true, true, false, false, false, false, false, false, false, false] rfl (by kernel_rfl) rfl rfl (by decide) (fun _ _ _ h => h) (fun _ => (q_eq_agg hT rfl rfl Tryd.eqg24 (EqR.dig Tryd.arr24 Tryd.underlying5 aL.p aL.p) (by decide)).b (b := true) (by simp)) ?_; clear hT; intro a hT
  refine d_pure (i := 47) hT #[true, true, true, true, true, true, true, true, true, true, true, true, true, true, true, true, true, true, true, true, true, true, true, true, true, true, true, true, true, true, true, true, true, true, true, true, true, true, true, true, true, true, true, true, true, true, true, true, false, false, false, false, false, false, false] rfl (by kernel_rfl) rfl rfl (by decide) (fun _ _ _ h => h) (fun _ => (q_pick hT rfl rfl rfl).v (v := (Value.bool true)) rfl) ?_; clear hT; intro a hT
  refine d_pure (i := 48) hT #[true, true, true, true, true, true, true, true, true, true, true, true, true, true, true, true, true, true, true, true, true, true, true, true, true, true, true, true, true, true, true, true, true, true, true, true, true, true, true, true, true, true, true, true, true, true, true, true, true, false, false, false, false, false, false] rfl (by kernel_rfl) rfl rfl (by decide) (fun _ _ _ h => h) (fun _ => q_move hT rfl) ?_; clear hT; intro a hT
  refine d_pure (i := 49) hT #[true, true, true, true, true, true, true, true, true, true, true, true, true, true, true, true, true, true, true, true, true, true, true, true, true, true, true, true, true, true, true, true, true, true, true, true, true, true, true, true, true, true, true, true, true, true, true, true, true, true, false, false, false, false, false] rfl (by kernel_rfl) rfl rfl (by decide) (fun _ _ _ h => h) (fun _ => q_fieldAddr hT rfl Tryd.fld29_0 rfl) ?_; clear hT; intro a hT
  refine d_take (i := 50) hT #[true, true, true, true, true, true, true, true, true, true, true, true, true, true, true, true, true, true, true, true, true, true, true, true, true, true, true, true, true, true, true, true, true, true, true, true, true, true, true, true, true, true, true, true, true, true, true, true, true, true, true, false, false, false, false] rfl (by kernel_rfl) rfl rfl (by decide) (fun _ _ _ h => h) (fun _ hs => q_load hT rfl Tryd.ty27 (Rd.ext (hR.rd 0 rfl 0 (ds := [(Value.slice ps1 0 cps2)]) rfl) hs)) hS ?_; clear hT; intro a hT
  refine d_pure (i := 51) hT #[true, true, true, true, true, true, true, true, true, true, true, true, true, true, true, true, true, true, true, true, true, true, true, true, true, true, true, true, true, true, true, true, true, true, true, true, true, true, true, true, true, true, true, true, true, true, true, true, true, true, true, true, false, false, false] rfl (by kernel_rfl) rfl rfl (by decide) (fun _ _ _ h => h) (fun _ => q_len_slice hT rfl Tryd.underlying27) ?_; clear hT; intro a hT
  refine d_pure (i := 52) hT #[true, true, true, true, true, true, true, true, true, true, true, true, true, true, true, true, true, true, true, true, true, true, true, true, true, true, true, true, true, true, true, true, true, true, true, true, true, true, true, true, true, true, true, true, true, true, true, true, true, true, true, true, true, false, false] rfl (by kernel_rfl) rfl rfl (by decide) (fun _ _ _ h => h) (fun _ => (q_eql hT rfl rfl).b (b := true) rfl) ?_; clear hT; intro a hT
  refine d_pure (i := 53) hT #[true, true, true, true, true, true, true, true, true, true, true, true, true, true, true, true, true, true, true, true, true, true, true, true, true, true, true, true, true, true, true, true, true, true, true, true, true, true, true, true, true, true, true, true, true, true, true, true, true, true, true, true, true, true, false] rfl (by kernel_rfl) rfl rfl (by decide) (fun _ _ _ h => h) (fun _ => (q_pick hT rfl rfl rfl).v (v := (Value.bool true)) rfl) ?_; clear hT; intro a hT
  refine d_pure (i := 54) hT #[true, true, true, true, true, true, true, true, true, true, true, true, true, true, true, true, true, true, true, true, true, true, true, true, true, true, true, true, true, true, true, true, true, true, true, true, true, true, true, true, true, true, true, true, true, true, true, true, true, true, true, true, true, true, true] rfl (by kernel_rfl) rfl rfl (by decide) (fun _ _ _ h => h) (fun _ => q_assign hT rfl) ?_; clear hT; intro a hT
  refine d_done (by kernel_rfl) ?_; clear hR hS
  refine then_norm ?_
  refine wp_ret ?_
  refine c_ret (vs := [(Value.bool true)]) (rs := [.tmp 0]) hT rfl (.tmp rfl .nil) ?_
  exact ⟨rfl, hL.drop⟩
end Go.Proofs.YtcaffacganffjaaDoor
end

section
namespace Go.Proofs.YtcaffacganffjaaDoor
open Go Go.Vg


set_option maxRecDepth 100000 in
set_option maxHeartbeats 4000000 in
theorem pr_many (w : Int) (ls : List Leaf) (p : Option Addr) (len cap : Nat) (pt : Dig) (hl : 200 < len) (w0 : World) (hK : KeysAt w0) (hsl : SlT w0 p len 64 leafC noLeaf ls) :
    Calls Tryd.prog 4 #[(vI w), (Value.slice p len cap), (Value.agg (digC pt).toArray)] w0 fun e w' => e = .returned (.bool true) ∧ Ext w0 w' := by
  refine c_enter (n := 95) (args := [(vI w), (Value.slice p len cap), (Value.agg (digC pt).toArray)]) Tryd.func4 rfl rfl (Nat.le_of_ble_eq_true rfl) rfl (fun a hT => ?_)
  simp only [List.zipIdx_cons, List.zipIdx_nil, List.map_cons, List.map_nil, Nat.reduceAdd] at hT
  have hL := Vg.Loc.refl [] w0
  have hlen : ls.length = len := hsl.1
  refine c_seq ?_
  refine c_region ?_
  refine l_do rfl ?_
  refine w_box hT hL (by decide) rfl (c := digC pt) rfl ?_; clear hT hL; intro b1 a w1 hT hL hE hB
  refine l_q hT (q_assign hT rfl) rfl rfl (by decide) ?_; clear hT; intro a hT
  refine l_end ?_
  refine then_norm ?_
  refine c_seq ?_
  refine c_seq ?_
  refine c_region ?_
  refine l_q hT (q_move hT rfl) rfl rfl (by decide) ?_; clear hT; intro a hT
  refine l_q hT (q_len_slice hT rfl Tryd.underlying22) rfl rfl (by decide) ?_; clear hT; intro a hT
  refine l_q hT ((q_gtr hT rfl rfl).b (c := decide (200 < (len : Int))) (b := true) (decide_eq_true (by omega))) rfl rfl (by decide) ?_; clear hT; intro a hT
  refine l_end ?_
  refine then_norm ?_
  refine c_true hT rfl rfl ?_
  refine c_seq ?_
  refine c_region ?_
  refine l_q hT (q_assign hT rfl) rfl rfl (by decide) ?_; clear hT; intro a hT
  refine l_end ?_
  refine then_norm ?_
  refine wp_ret ?_
  refine then_ret ?_
  refine c_ret (vs := [(Value.bool true)]) (rs := [.tmp 6]) hT rfl (.tmp rfl .nil) ?_
  exact ⟨rfl, hL.drop⟩

set_option maxRecDepth 100000 in
set_option maxHeartbeats 4000000 in
theorem pr_err (w : Int) (ls : List Leaf) (p : Option Addr) (len cap : Nat) (pt : Dig) (hl : len ≤ 200) (he : rootE w ls ≠ 0) (w0 : World) (hK : KeysAt w0) (hsl : SlT w0 p len 64 leafC noLeaf ls) :
    Calls Tryd.prog 4 #[(vI w), (Value.slice p len cap), (Value.agg (digC pt).toArray)] w0 fun e w' => e = .returned (.bool true) ∧ Ext w0 w' := by
  refine c_enter (n := 95) (args := [(vI w), (Value.slice p len cap), (Value.agg (digC pt).toArray)]) Tryd.func4 rfl rfl (Nat.le_of_ble_eq_true rfl) rfl (fun a hT => ?_)
  simp only [List.zipIdx_cons, List.zipIdx_nil, List.map_cons, List.map_nil, Nat.reduceAdd] at hT
  have hL := Vg.Loc.refl [] w0
  have hlen : ls.length = len := hsl.1
  refine c_seq ?_
  refine c_region ?_
  refine l_do rfl ?_
  refine w_box hT hL (by decide) rfl (c := digC pt) rfl ?_; clear hT hL; intro b1 a w1 hT hL hE hB
  refine l_q hT (q_assign hT rfl) rfl rfl (by decide) ?_; clear hT; intro a hT
  refine l_end ?_
  refine then_norm ?_
  refine c_seq ?_
  refine c_seq ?_
  refine c_region ?_
  refine l_q hT (q_move hT rfl) rfl rfl (by decide) ?_; clear hT; intro a hT
  refine l_q hT (q_len_slice hT rfl Tryd.underlying22) rfl rfl (by decide) ?_; clear hT; intro a hT
  refine l_q hT ((q_gtr hT rfl rfl).b (c := decide (200 < (len : Int))) (b := false) (decide_eq_false (by omega))) rfl rfl (by decide) ?_; clear hT; intro a hT
  refine l_end ?_
  refine then_norm ?_
  refine c_false hT rfl rfl ?_
  refine wp_skip ?_
  refine then_norm ?_
  refine c_seq ?_
  refine c_region ?_
  refine l_q hT (q_move hT rfl) rfl rfl (by decide) ?_; clear hT; intro a hT
  refine l_q hT (q_move hT rfl) rfl rfl (by decide) ?_; clear hT; intro a hT
  refine l_q hT (q_load_agg hT rfl Tryd.ty24 (hL.rd 0 rfl 0 (ds := digC pt) rfl) rfl) rfl rfl (by decide) ?_; clear hT; intro a hT
  refine l_do rfl ?_
  refine w_callT (xs := [.tmp 18, .tmp 19, .tmp 20]) hT rfl (vs := [(vI w), (Value.slice p len cap), (Value.agg (digC pt).toArray)]) rfl (args := #[(vI w), (Value.slice p len cap), (Value.agg (digC pt).toArray)]) rfl Tryd.func5 rfl rfl (by decide) ((make_err w ls p len cap pt he _ (KeysAt.of hK hL (by simp)) (hsl.ext hL)).mono ?_)
  rintro e w2 ⟨rfl, hX⟩
  refine ⟨_, rfl, ?_⟩; clear hT; intro a hT; replace hT : Tm 95 a ((21, (Value.tuple #[(Value.agg ([(Value.bool false)] ++ (digC Dig.zero)).toArray), (Value.agg ([(Value.slice none 0 0), (Value.bool false)] ++ (digC Dig.zero ++ (digC Dig.zero))).toArray), (vI (rootE w ls))])) :: _) := hT
  replace hL := hL.ext hX
  refine l_q hT (q_move hT rfl) rfl rfl (by decide) ?_; clear hT; intro a hT
  refine l_q hT (q_extract hT rfl rfl) rfl rfl (by decide) ?_; clear hT; intro a hT
  refine l_q hT (q_extract hT rfl rfl) rfl rfl (by decide) ?_; clear hT; intro a hT
  refine l_q hT (q_extract hT rfl rfl) rfl rfl (by decide) ?_; clear hT; intro a hT
  refine l_do rfl ?_
  refine w_alloc hT hL (by decide) Tryd.ty26 ?_; clear hT hL; intro b2 a w3 hT hL hE hB
  refine l_do rfl ?_
  refine w_alloc hT hL (by decide) Tryd.ty29 ?_; clear hT hL; intro b3 a w4 hT hL hE hB
  refine l_do rfl ?_
  refine w_store hT hL 1 (c := [(Value.bool false)] ++ (digC Dig.zero)) rfl rfl Tryd.ty26 rfl (vs := [(Value.bool false)] ++ (digC Dig.zero)) rfl rfl (by first | decide | (simp [arr32_len, arr8_len, digC_len]; done) | (simp [arr32_len, arr8_len, digC_len]; omega)) rfl (c' := [(Value.bool false)] ++ (digC Dig.zero)) rfl ?_; clear hL; intro w5 hL hE
  replace hL : Vg.Loc [] w0 w5 ([[(b3, ob ([(Value.slice none 0 0), (Value.bool false)] ++ (digC Dig.zero ++ (digC Dig.zero))) 29)], [(b2, ob ([(Value.bool false)] ++ (digC Dig.zero)) 26)], [(b1, ob (digC pt) 24)]]) := hL
  refine l_do rfl ?_
  refine w_store hT hL 0 (c := [(Value.slice none 0 0), (Value.bool false)] ++ (digC Dig.zero ++ (digC Dig.zero))) rfl rfl Tryd.ty29 rfl (vs := [(Value.slice none 0 0), (Value.bool false)] ++ (digC Dig.zero ++ (digC Dig.zero))) rfl rfl (by first | decide | (simp [arr32_len, arr8_len, digC_len]; done) | (simp [arr32_len, arr8_len, digC_len]; omega)) rfl (c' := [(Value.slice none 0 0), (Value.bool false)] ++ (digC Dig.zero ++ (digC Dig.zero))) rfl ?_; clear hL; intro w6 hL hE
  replace hL : Vg.Loc [] w0 w6 ([[(b3, ob ([(Value.slice none 0 0), (Value.bool false)] ++ (digC Dig.zero ++ (digC Dig.zero))) 29)], [(b2, ob ([(Value.bool false)] ++ (digC Dig.zero)) 26)], [(b1, ob (digC pt) 24)]]) := hL
  refine l_q hT (q_assign hT rfl) rfl rfl (by decide) ?_; clear hT; intro a hT
  refine l_end ?_
  refine then_norm ?_
  refine c_seq ?_
  refine c_region ?_
  refine l_q hT (q_move hT rfl) rfl rfl (by decide) ?_; clear hT; intro a hT
  refine l_q hT (q_move hT rfl) rfl rfl (by decide) ?_; clear hT; intro a hT
  refine l_do rfl ?_
  refine w_callT (xs := [.tmp 26, .tmp 27]) hT rfl (vs := [(vI w), (Value.slice p len cap)]) rfl (args := #[(vI w), (Value.slice p len cap)]) rfl Tryd.func8 rfl rfl (by decide) ((root_spec twice_ok w ls p len cap _ (KeysAt.of hK hL (by simp)) (hsl.ext hL)).mono ?_)
  rintro e w7 ⟨rfl, hX⟩
  refine ⟨_, rfl, ?_⟩; clear hT; intro a hT; replace hT : Tm 95 a ((28, (Value.tuple #[(Value.agg (digC (rootD w ls)).toArray), (vI (rootE w ls))])) :: _) := hT
  replace hL := hL.ext hX
  refine l_q hT (q_move hT rfl) rfl rfl (by decide) ?_; clear hT; intro a hT
  refine l_q hT (q_extract hT rfl rfl) rfl rfl (by decide) ?_; clear hT; intro a hT
  refine l_q hT (q_extract hT rfl rfl) rfl rfl (by decide) ?_; clear hT; intro a hT
  refine l_do rfl ?_
  refine w_alloc hT hL (by decide) Tryd.ty24 ?_; clear hT hL; intro b4 a w8 hT hL hE hB
  refine l_do rfl ?_
  refine w_store hT hL 0 (c := digC Dig.zero) rfl rfl Tryd.ty24 rfl (vs := digC (rootD w ls)) rfl rfl (by first | decide | (simp [arr32_len, arr8_len, digC_len]; done) | (simp [arr32_len, arr8_len, digC_len]; omega)) rfl (c' := digC (rootD w ls)) rfl ?_; clear hL; intro w9 hL hE
  replace hL : Vg.Loc [] w0 w9 ([[(b4, ob (digC (rootD w ls)) 24)], [(b3, ob ([(Value.slice none 0 0), (Value.bool false)] ++ (digC Dig.zero ++ (digC Dig.zero))) 29)], [(b2, ob ([(Value.bool false)] ++ (digC Dig.zero)) 26)], [(b1, ob (digC pt) 24)]]) := hL
  refine l_q hT (q_assign hT rfl) rfl rfl (by decide) ?_; clear hT; intro a hT
  refine l_end ?_
  refine then_norm ?_
  refine c_seq ?_
  refine c_seq ?_
  refine c_region ?_
  refine l_q hT (q_move hT rfl) rfl rfl (by decide) ?_; clear hT; intro a hT
  refine l_q hT ((q_neq hT rfl rfl).b (c := decide ((rootE w ls) ≠ 0)) (b := true) (decide_eq_true he)) rfl rfl (by decide) ?_; clear hT; intro a hT
  refine l_q hT (q_move hT rfl) rfl rfl (by decide) ?_; clear hT; intro a hT
  refine l_off hT rfl rfl rfl rfl rfl (by decide) ?_; clear hT; intro a hT
  refine l_off hT rfl rfl rfl rfl rfl (by decide) ?_; clear hT; intro a hT
  refine l_q hT ((q_pick hT rfl rfl rfl).v (v := (Value.bool true)) rfl) rfl rfl (by decide) ?_; clear hT; intro a hT
  refine l_end ?_
  refine then_norm ?_
  refine c_true hT rfl rfl ?_
  refine c_seq ?_
  refine c_region ?_
  refine l_do rfl ?_
  refine w_callT (xs := []) hT rfl (vs := []) rfl (args := #[]) rfl Tryd.func6 rfl rfl (by decide) ((makes_spec _ (hK.of hL (by simp))).mono ?_)
  rintro e w10 ⟨rfl, hX⟩
  refine ⟨_, rfl, ?_⟩; clear hT; intro a hT; replace hT : Tm 95 a ((37, (Value.bool true)) :: _) := hT
  replace hL := hL.ext hX
  refine l_q hT (q_move hT rfl) rfl rfl (by decide) ?_; clear hT; intro a hT
  refine l_on hT rfl rfl rfl rfl ?_
  refine w_callT (xs := []) hT rfl (vs := []) rfl (args := #[]) rfl Tryd.func9 rfl rfl (by decide) ((checks_spec _ (hK.of hL (by simp))).mono ?_)
  rintro e w11 ⟨rfl, hX⟩
  refine ⟨_, rfl, ?_⟩; clear hT; intro a hT; replace hT : Tm 95 a ((39, (Value.bool true)) :: _) := hT
  replace hL := hL.ext hX
  refine l_q hT ((q_pick hT rfl rfl rfl).v (v := (Value.bool true)) rfl) rfl rfl (by decide) ?_; clear hT; intro a hT
  refine l_q hT (q_move hT rfl) rfl rfl (by decide) ?_; clear hT; intro a hT
  refine l_on hT rfl rfl rfl rfl (w_q hT (q_move hT rfl) rfl (by decide) ?_); clear hT; intro a hT
  refine l_on hT rfl rfl rfl rfl (w_q hT (q_move hT rfl) rfl (by decide) ?_); clear hT; intro a hT
  refine l_on hT rfl rfl rfl rfl (w_q hT ((q_eql hT rfl rfl).b (c := decide ((rootE w ls) = (rootE w ls))) (b := true) (by simp)) rfl (by decide) ?_); clear hT; intro a hT
  refine l_q hT ((q_pick hT rfl rfl rfl).v (v := (Value.bool true)) rfl) rfl rfl (by decide) ?_; clear hT; intro a hT
  refine l_q hT (q_assign hT rfl) rfl rfl (by decide) ?_; clear hT; intro a hT
  refine l_end ?_
  refine then_norm ?_
  refine wp_ret ?_
  refine then_ret ?_
  refine c_ret (vs := [(Value.bool true)]) (rs := [.tmp 6]) hT rfl (.tmp rfl .nil) ?_
  exact ⟨rfl, hL.drop⟩

set_option maxRecDepth 100000 in
set_option maxHeartbeats 4000000 in
theorem pr_ok (w : Int) (ls : List Leaf) (p : Option Addr) (len cap : Nat) (pt : Dig) (hl : len ≤ 200) (he : rootE w ls = 0) (w0 : World) (hK : KeysAt w0) (hsl : SlT w0 p len 64 leafC noLeaf ls) :
    Calls Tryd.prog 4 #[(vI w), (Value.slice p len cap), (Value.agg (digC pt).toArray)] w0 fun e w' => e = .returned (.bool true) ∧ Ext w0 w' := by
  refine c_enter (n := 95) (args := [(vI w), (Value.slice p len cap), (Value.agg (digC pt).toArray)]) Tryd.func4 rfl rfl (Nat.le_of_ble_eq_true rfl) rfl (fun a hT => ?_)
  simp only [List.zipIdx_cons, List.zipIdx_nil, List.map_cons, List.map_nil, Nat.reduceAdd] at hT
  have hL := Vg.Loc.refl [] w0
  have hlen : ls.length = len := hsl.1
  have hgd := rootE_good he
  have hthere := there_made w ls pt hgd
  have hwd : widthB w = true := by
    cases hw : widthB w
    · simp [rootE, hw] at he
    · rfl
  have hgl := (go_len w pt 257 ls 0 rfl (by omega) hgd).1
  refine c_seq ?_
  refine c_region ?_
  refine l_do rfl ?_
  refine w_box hT hL (by decide) rfl (c := digC pt) rfl ?_; clear hT hL; intro b1 a w1 hT hL hE hB
  refine l_q hT (q_assign hT rfl) rfl rfl (by decide) ?_; clear hT; intro a hT
  refine l_end ?_
  refine then_norm ?_
  refine c_seq ?_
  refine c_seq ?_
  refine c_region ?_
  refine l_q hT (q_move hT rfl) rfl rfl (by decide) ?_; clear hT; intro a hT
  refine l_q hT (q_len_slice hT rfl Tryd.underlying22) rfl rfl (by decide) ?_; clear hT; intro a hT
  refine l_q hT ((q_gtr hT rfl rfl).b (c := decide (200 < (len : Int))) (b := false) (decide_eq_false (by omega))) rfl rfl (by decide) ?_; clear hT; intro a hT
  refine l_end ?_
  refine then_norm ?_
  refine c_false hT rfl rfl ?_
  refine wp_skip ?_
  refine then_norm ?_
  refine c_seq ?_
  refine c_region ?_
  refine l_q hT (q_move hT rfl) rfl rfl (by decide) ?_; clear hT; intro a hT
  refine l_q hT (q_move hT rfl) rfl rfl (by decide) ?_; clear hT; intro a hT
  refine l_q hT (q_load_agg hT rfl Tryd.ty24 (hL.rd 0 rfl 0 (ds := digC pt) rfl) rfl) rfl rfl (by decide) ?_; clear hT; intro a hT
  refine l_do rfl ?_
  refine w_callT (xs := [.tmp 18, .tmp 19, .tmp 20]) hT rfl (vs := [(vI w), (Value.slice p len cap), (Value.agg (digC pt).toArray)]) rfl (args := #[(vI w), (Value.slice p len cap), (Value.agg (digC pt).toArray)]) rfl Tryd.func5 rfl rfl (by decide) ((make_ok w ls p len cap pt (by omega) he _ (KeysAt.of hK hL (by simp)) (hsl.ext hL)).mono ?_)
  rintro e w2 ⟨ps, cps, cs, rfl, hX, hsib⟩
  refine ⟨_, rfl, ?_⟩; clear hT; intro a hT; replace hT : Tm 95 a ((21, (Value.tuple #[(Value.agg ([(Value.bool ((saysL pt (goL w pt 257 ls 0).2).1))] ++ (digC ((saysL pt (goL w pt 257 ls 0).2).2.1))).toArray), (Value.agg ([(Value.slice ps ((goL w pt 257 ls 0).1.length) cps), (Value.bool ((saysL pt (goL w pt 257 ls 0).2).2.2.1))] ++ (digC ((saysL pt (goL w pt 257 ls 0).2).2.2.2.1) ++ (digC ((saysL pt (goL w pt 257 ls 0).2).2.2.2.2)))).toArray), (vI 0)])) :: _) := hT
  replace hL : Vg.Loc [] w0 w2 ([cs, [(b1, ob (digC pt) 24)]]) := hL.exts hX
  refine l_q hT (q_move hT rfl) rfl rfl (by decide) ?_; clear hT; intro a hT
  refine l_q hT (q_extract hT rfl rfl) rfl rfl (by decide) ?_; clear hT; intro a hT
  refine l_q hT (q_extract hT rfl rfl) rfl rfl (by decide) ?_; clear hT; intro a hT
  refine l_q hT (q_extract hT rfl rfl) rfl rfl (by decide) ?_; clear hT; intro a hT
  refine l_do rfl ?_
  refine w_alloc hT hL (by decide) Tryd.ty26 ?_; clear hT hL; intro b2 a w3 hT hL hE hB
  refine l_do rfl ?_
  refine w_alloc hT hL (by decide) Tryd.ty29 ?_; clear hT hL; intro b3 a w4 hT hL hE hB
  refine l_do rfl ?_
  refine w_store hT hL 1 (c := [(Value.bool false)] ++ (digC Dig.zero)) rfl rfl Tryd.ty26 rfl (vs := [(Value.bool ((saysL pt (goL w pt 257 ls 0).2).1))] ++ (digC ((saysL pt (goL w pt 257 ls 0).2).2.1))) rfl rfl (by first | decide | (simp [arr32_len, arr8_len, digC_len]; done) | (simp [arr32_len, arr8_len, digC_len]; omega)) rfl (c' := [(Value.bool ((saysL pt (goL w pt 257 ls 0).2).1))] ++ (digC ((saysL pt (goL w pt 257 ls 0).2).2.1))) rfl ?_; clear hL; intro w5 hL hE
  replace hL : Vg.Loc [] w0 w5 ([[(b3, ob ([(Value.slice none 0 0), (Value.bool false)] ++ (digC Dig.zero ++ (digC Dig.zero))) 29)], [(b2, ob ([(Value.bool ((saysL pt (goL w pt 257 ls 0).2).1))] ++ (digC ((saysL pt (goL w pt 257 ls 0).2).2.1))) 26)], cs, [(b1, ob (digC pt) 24)]]) := hL
  refine l_do rfl ?_
  refine w_store hT hL 0 (c := [(Value.slice none 0 0), (Value.bool false)] ++ (digC Dig.zero ++ (digC Dig.zero))) rfl rfl Tryd.ty29 rfl (vs := [(Value.slice ps ((goL w pt 257 ls 0).1.length) cps), (Value.bool ((saysL pt (goL w pt 257 ls 0).2).2.2.1))] ++ (digC ((saysL pt (goL w pt 257 ls 0).2).2.2.2.1) ++ (digC ((saysL pt (goL w pt 257 ls 0).2).2.2.2.2)))) rfl rfl (by first | decide | (simp [arr32_len, arr8_len, digC_len]; done) | (simp [arr32_len, arr8_len, digC_len]; omega)) rfl (c' := [(Value.slice ps ((goL w pt 257 ls 0).1.length) cps), (Value.bool ((saysL pt (goL w pt 257 ls 0).2).2.2.1))] ++ (digC ((saysL pt (goL w pt 257 ls 0).2).2.2.2.1) ++ (digC ((saysL pt (goL w pt 257 ls 0).2).2.2.2.2)))) rfl ?_; clear hL; intro w6 hL hE
  replace hL : Vg.Loc [] w0 w6 ([[(b3, ob ([(Value.slice ps ((goL w pt 257 ls 0).1.length) cps), (Value.bool ((saysL pt (goL w pt 257 ls 0).2).2.2.1))] ++ (digC ((saysL pt (goL w pt 257 ls 0).2).2.2.2.1) ++ (digC ((saysL pt (goL w pt 257 ls 0).2).2.2.2.2)))) 29)], [(b2, ob ([(Value.bool ((saysL pt (goL w pt 257 ls 0).2).1))] ++ (digC ((saysL pt (goL w pt 257 ls 0).2).2.1))) 26)], cs, [(b1, ob (digC pt) 24)]]) := hL
  refine l_q hT (q_assign hT rfl) rfl rfl (by decide) ?_; clear hT; intro a hT
  refine l_end ?_
  refine then_norm ?_
  refine c_seq ?_
  refine c_region ?_
  refine l_q hT (q_move hT rfl) rfl rfl (by decide) ?_; clear hT; intro a hT
  refine l_q hT (q_move hT rfl) rfl rfl (by decide) ?_; clear hT; intro a hT
  refine l_do rfl ?_
  refine w_callT (xs := [.tmp 26, .tmp 27]) hT rfl (vs := [(vI w), (Value.slice p len cap)]) rfl (args := #[(vI w), (Value.slice p len cap)]) rfl Tryd.func8 rfl rfl (by decide) ((root_spec twice_ok w ls p len cap _ (KeysAt.of hK hL (by simp)) (hsl.ext hL)).mono ?_)
  rintro e w7 ⟨rfl, hX⟩
  refine ⟨_, rfl, ?_⟩; clear hT; intro a hT; replace hT : Tm 95 a ((28, (Value.tuple #[(Value.agg (digC (rootD w ls)).toArray), (vI (rootE w ls))])) :: _) := hT
  replace hL := hL.ext hX
  rw [he] at hT
  refine l_q hT (q_move hT rfl) rfl rfl (by decide) ?_; clear hT; intro a hT
  refine l_q hT (q_extract hT rfl rfl) rfl rfl (by decide) ?_; clear hT; intro a hT
  refine l_q hT (q_extract hT rfl rfl) rfl rfl (by decide) ?_; clear hT; intro a hT
  refine l_do rfl ?_
  refine w_alloc hT hL (by decide) Tryd.ty24 ?_; clear hT hL; intro b4 a w8 hT hL hE hB
  refine l_do rfl ?_
  refine w_store hT hL 0 (c := digC Dig.zero) rfl rfl Tryd.ty24 rfl (vs := digC (rootD w ls)) rfl rfl (by first | decide | (simp [arr32_len, arr8_len, digC_len]; done) | (simp [arr32_len, arr8_len, digC_len]; omega)) rfl (c' := digC (rootD w ls)) rfl ?_; clear hL; intro w9 hL hE
  replace hL : Vg.Loc [] w0 w9 ([[(b4, ob (digC (rootD w ls)) 24)], [(b3, ob ([(Value.slice ps ((goL w pt 257 ls 0).1.length) cps), (Value.bool ((saysL pt (goL w pt 257 ls 0).2).2.2.1))] ++ (digC ((saysL pt (goL w pt 257 ls 0).2).2.2.2.1) ++ (digC ((saysL pt (goL w pt 257 ls 0).2).2.2.2.2)))) 29)], [(b2, ob ([(Value.bool ((saysL pt (goL w pt 257 ls 0).2).1))] ++ (digC ((saysL pt (goL w pt 257 ls 0).2).2.1))) 26)], cs, [(b1, ob (digC pt) 24)]]) := hL
  refine l_q hT (q_assign hT rfl) rfl rfl (by decide) ?_; clear hT; intro a hT
  refine l_end ?_
  refine then_norm ?_
  refine c_seq ?_
  refine c_seq ?_
  refine c_region ?_
  refine l_q hT (q_move hT rfl) rfl rfl (by decide) ?_; clear hT; intro a hT
  refine l_q hT ((q_neq hT rfl rfl).b (b := false) rfl) rfl rfl (by decide) ?_; clear hT; intro a hT
  refine l_q hT (q_move hT rfl) rfl rfl (by decide) ?_; clear hT; intro a hT
  refine l_on hT rfl rfl rfl rfl (w_q hT (q_move hT rfl) rfl (by decide) ?_); clear hT; intro a hT
  refine l_on hT rfl rfl rfl rfl (w_q hT ((q_neq hT rfl rfl).b (b := false) rfl) rfl (by decide) ?_); clear hT; intro a hT
  refine l_q hT ((q_pick hT rfl rfl rfl).v (v := (Value.bool false)) rfl) rfl rfl (by decide) ?_; clear hT; intro a hT
  refine l_end ?_
  refine then_norm ?_
  refine c_false hT rfl rfl ?_
  refine wp_skip ?_
  refine then_norm ?_
  refine c_seq ?_
  refine c_region ?_
  refine l_q hT (q_assign hT rfl) rfl rfl (by decide) ?_; clear hT; intro a hT
  refine l_end ?_
  refine then_norm ?_
  refine c_seq ?_
  refine c_seq ?_
  refine c_region ?_
  refine l_q hT (q_assign hT rfl) rfl rfl (by decide) ?_; clear hT; intro a hT
  refine l_end ?_
  refine then_norm ?_
  refine wp_block ?_
  replace hL : Vg.Loc [] w0 w9 ([cs, [(b4, ob (digC (rootD w ls)) 24)], [(b3, ob ([(Value.slice ps ((goL w pt 257 ls 0).1.length) cps), (Value.bool ((saysL pt (goL w pt 257 ls 0).2).2.2.1))] ++ (digC ((saysL pt (goL w pt 257 ls 0).2).2.2.2.1) ++ (digC ((saysL pt (goL w pt 257 ls 0).2).2.2.2.2)))) 29)], [(b2, ob ([(Value.bool ((saysL pt (goL w pt 257 ls 0).2).1))] ++ (digC ((saysL pt (goL w pt 257 ls 0).2).2.1))) 26)], [(b1, ob (digC pt) 24)]]) := hL.front 3 rfl rfl
  replace hL : Vg.Loc [] w0 w9 ([[(b4, ob (digC (rootD w ls)) 24)], cs, [(b3, ob ([(Value.slice ps ((goL w pt 257 ls 0).1.length) cps), (Value.bool ((saysL pt (goL w pt 257 ls 0).2).2.2.1))] ++ (digC ((saysL pt (goL w pt 257 ls 0).2).2.2.2.1) ++ (digC ((saysL pt (goL w pt 257 ls 0).2).2.2.2.2)))) 29)], [(b2, ob ([(Value.bool ((saysL pt (goL w pt 257 ls 0).2).1))] ++ (digC ((saysL pt (goL w pt 257 ls 0).2).2.1))) 26)], [(b1, ob (digC pt) 24)]]) := hL.front 1 rfl rfl
  replace hL : Vg.Loc [] w0 w9 ([[(b3, ob ([(Value.slice ps ((goL w pt 257 ls 0).1.length) cps), (Value.bool ((saysL pt (goL w pt 257 ls 0).2).2.2.1))] ++ (digC ((saysL pt (goL w pt 257 ls 0).2).2.2.2.1) ++ (digC ((saysL pt (goL w pt 257 ls 0).2).2.2.2.2)))) 29)], [(b4, ob (digC (rootD w ls)) 24)], cs, [(b2, ob ([(Value.bool ((saysL pt (goL w pt 257 ls 0).2).1))] ++ (digC ((saysL pt (goL w pt 257 ls 0).2).2.1))) 26)], [(b1, ob (digC pt) 24)]]) := hL.front 2 rfl rfl
  replace hL : Vg.Loc [] w0 w9 ([[(b2, ob ([(Value.bool ((saysL pt (goL w pt 257 ls 0).2).1))] ++ (digC ((saysL pt (goL w pt 257 ls 0).2).2.1))) 26)], [(b3, ob ([(Value.slice ps ((goL w pt 257 ls 0).1.length) cps), (Value.bool ((saysL pt (goL w pt 257 ls 0).2).2.2.1))] ++ (digC ((saysL pt (goL w pt 257 ls 0).2).2.2.2.1) ++ (digC ((saysL pt (goL w pt 257 ls 0).2).2.2.2.2)))) 29)], [(b4, ob (digC (rootD w ls)) 24)], cs, [(b1, ob (digC pt) 24)]]) := hL.front 3 rfl rfl
  replace hL : Vg.Loc [] w0 w9 ([[(b1, ob (digC pt) 24)], [(b2, ob ([(Value.bool ((saysL pt (goL w pt 257 ls 0).2).1))] ++ (digC ((saysL pt (goL w pt 257 ls 0).2).2.1))) 26)], [(b3, ob ([(Value.slice ps ((goL w pt 257 ls 0).1.length) cps), (Value.bool ((saysL pt (goL w pt 257 ls 0).2).2.2.1))] ++ (digC ((saysL pt (goL w pt 257 ls 0).2).2.2.2.1) ++ (digC ((saysL pt (goL w pt 257 ls 0).2).2.2.2.2)))) 29)], [(b4, ob (digC (rootD w ls)) 24)], cs]) := hL.front 4 rfl rfl
  refine c_loop (fun mz a wz => ∃ t : Nat, mz = len - t ∧ t ≤ len ∧ Tm 95 a [(0, (vI w)), (1, (Value.slice p len cap)), (5, (vp b1 0)), (7, (vp b2 0)), (8, (vp b3 0)), (10, (vp b4 0)), (12, (Value.bool (thereL ls pt (saysL pt (goL w pt 257 ls 0).2).1 (saysL pt (goL w pt 257 ls 0).2).2.1 t))), (13, (vI (t : Int)))] ∧ Vg.Loc [] w0 wz [[(b1, ob (digC pt) 24)], [(b2, ob ([(Value.bool ((saysL pt (goL w pt 257 ls 0).2).1))] ++ (digC ((saysL pt (goL w pt 257 ls 0).2).2.1))) 26)], [(b3, ob ([(Value.slice ps ((goL w pt 257 ls 0).1.length) cps), (Value.bool ((saysL pt (goL w pt 257 ls 0).2).2.2.1))] ++ (digC ((saysL pt (goL w pt 257 ls 0).2).2.2.2.1) ++ (digC ((saysL pt (goL w pt 257 ls 0).2).2.2.2.2)))) 29)], [(b4, ob (digC (rootD w ls)) 24)], cs]) id len ?_ ?_
  · exact ⟨0, rfl, by omega, by rw [show (thereL ls pt (saysL pt (goL w pt 257 ls 0).2).1 (saysL pt (goL w pt 257 ls 0).2).2.1 0) = false by simp [thereL]]; exact hT.keep [0, 1, 5, 7, 8, 10, 12, 13] rfl, hL⟩
  clear hT hL
  rintro mz a w10 ⟨t, rfl, ht, hT, hL⟩
  refine c_seq ?_
  refine c_seq ?_
  refine c_region ?_
  refine l_q hT (q_move hT rfl) rfl rfl (by decide) ?_; clear hT; intro a hT
  refine l_q hT (q_move hT rfl) rfl rfl (by decide) ?_; clear hT; intro a hT
  refine l_q hT (q_len_slice hT rfl Tryd.underlying22) rfl rfl (by decide) ?_; clear hT; intro a hT
  refine l_q hT (q_lss hT rfl rfl) rfl rfl (by decide) ?_; clear hT; intro a hT
  refine l_end ?_
  refine then_norm ?_
  refine c_if hT rfl (fun hc1 => ?_) (fun hc1 => ?_)
  · skip
    have hc1 := of_decide_eq_true hc1
    refine wp_skip ?_
    refine then_norm ?_
    refine c_seq ?_
    refine wp_block ?_
    refine d_start' hL #[false, false, false, false, false, false, false, false, false, false, false, false, false, false, false, false, false, false, false, false, false, false, false, false, false] [] rfl rfl rfl ?_; clear hL; intro w11 hL hE; have hR := hL; have hS := Ext.refl w11
    refine d_pure (i := 0) hT #[true, false, false, false, false, false, false, false, false, false, false, false, false, false, false, false, false, false, false, false, false, false, false, false, false] rfl (by kernel_rfl) rfl rfl (by decide) (fun _ _ _ h => h) (fun _ => q_move hT rfl) ?_; clear hT; intro a hT
    refine d_pure (i := 1) hT #[true, true, false, false, false, false, false, false, false, false, false, false, false, false, false, false, false, false, false, false, false, false, false, false, false] rfl (by kernel_rfl) rfl rfl (by decide) (fun _ _ _ h => h) (fun _ => q_move hT rfl) ?_; clear hT; intro a hT
    rcases Bool.eq_false_or_eq_true ((thereL ls pt (saysL pt (goL w pt 257 ls 0).2).1 (saysL pt (goL w pt 257 ls 0).2).2.1 t)) with hc2 | hc2
    · rw [hc2] at hT
      refine d_off (i := 2) hT #[true, true, true, false, false, false, false, false, false, false, false, false, false, false, false, false, false, false, false, false, false, false, false, false, false] rfl (by kernel_rfl) rfl rfl (by decide) (fun _ _ _ h => h) ?_; clear hT; intro a hT
      refine d_off (i := 3) hT #[true, true, true, true, false, false, false, false, false, false, false, false, false, false, false, false, false, false, false, false, false, false, false, false, false] rfl (by kernel_rfl) rfl rfl (by decide) (fun _ _ _ h => h) ?_; clear hT; intro a hT
      refine d_off (i := 4) hT #[true, true, true, true, true, false, false, false, false, false, false, false, false, false, false, false, false, false, false, false, false, false, false, false, false] rfl (by kernel_rfl) rfl rfl (by decide) (fun _ _ _ h => h) ?_; clear hT; intro a hT
      refine d_off (i := 5) hT #[true, true, true, true, true, true, false, false, false, false, false, false, false, false, false, false, false, false, false, false, false, false, false, false, false] rfl (by kernel_rfl) rfl rfl (by decide) (fun _ _ _ h => h) ?_; clear hT; intro a hT
      refine d_off (i := 6) hT #[true, true, true, true, true, true, true, false, false, false, false, false, false, false, false, false, false, false, false, false, false, false, false, false, false] rfl (by kernel_rfl) rfl rfl (by decide) (fun _ _ _ h => h) ?_; clear hT; intro a hT
      refine d_off (i := 7) hT #[true, true, true, true, true, true, true, true, false, false, false, false, false, false, false, false, false, false, false, false, false, false, false, false, false] rfl (by kernel_rfl) rfl rfl (by decide) (fun _ _ _ h => h) ?_; clear hT; intro a hT
      refine d_off (i := 8) hT #[true, true, true, true, true, true, true, true, true, false, false, false, false, false, false, false, false, false, false, false, false, false, false, false, false] rfl (by kernel_rfl) rfl rfl (by decide) (fun _ _ _ h => h) ?_; clear hT; intro a hT
      refine d_off (i := 9) hT #[true, true, true, true, true, true, true, true, true, true, false, false, false, false, false, false, false, false, false, false, false, false, false, false, false] rfl (by kernel_rfl) rfl rfl (by decide) (fun _ _ _ h => h) ?_; clear hT; intro a hT
      refine d_off (i := 10) hT #[true, true, true, true, true, true, true, true, true, true, true, false, false, false, false, false, false, false, false, false, false, false, false, false, false] rfl (by kernel_rfl) rfl rfl (by decide) (fun _ _ _ h => h) ?_; clear hT; intro a hT
      refine d_off (i := 11) hT #[true, true, true, true, true, true, true, true, true, true, true, true, false, false, false, false, false, false, false, false, false, false, false, false, false] rfl (by kernel_rfl) rfl rfl (by decide) (fun _ _ _ h => h) ?_; clear hT; intro a hT
      refine d_off (i := 12) hT #[true, true, true, true, true, true, true, true, true, true, true, true, true, false, false, false, false, false, false, false, false, false, false, false, false] rfl (by kernel_rfl) rfl rfl (by decide) (fun _ _ _ h => h) ?_; clear hT; intro a hT
      refine d_off (i := 13) hT #[true, true, true, true, true, true, true, true, true, true, true, true, true, true, false, false, false, false, false, false, false, false, false, false, false] rfl (by kernel_rfl) rfl rfl (by decide) (fun _ _ _ h => h) ?_; clear hT; intro a hT
      refine d_off (i := 14) hT #[true, true, true, true, true, true, true, true, true, true, true, true, true, true, true, false, false, false, false, false, false, false, false, false, false] rfl (by kernel_rfl) rfl rfl (by decide) (fun _ _ _ h => h) ?_; clear hT; intro a hT
      refine d_off (i := 15) hT #[true, true, true, true, true, true, true, true, true, true, true, true, true, true, true, true, false, false, false, false, false, false, false, false, false] rfl (by kernel_rfl) rfl rfl (by decide) (fun _ _ _ h => h) ?_; clear hT; intro a hT
      refine d_off (i := 16) hT #[true, true, true, true, true, true, true, true, true, true, true, true, true, true, true, true, true, false, false, false, false, false, false, false, false] rfl (by kernel_rfl) rfl rfl (by decide) (fun _ _ _ h => h) ?_; clear hT; intro a hT
      refine d_off (i := 17) hT #[true, true, true, true, true, true, true, true, true, true, true, true, true, true, true, true, true, true, false, false, false, false, false, false, false] rfl (by kernel_rfl) rfl rfl (by decide) (fun _ _ _ h => h) ?_; clear hT; intro a hT
      refine d_off (i := 18) hT #[true, true, true, true, true, true, true, true, true, true, true, true, true, true, true, true, true, true, true, false, false, false, false, false, false] rfl (by kernel_rfl) rfl rfl (by decide) (fun _ _ _ h => h) ?_; clear hT; intro a hT
      refine d_off (i := 19) hT #[true, true, true, true, true, true, true, true, true, true, true, true, true, true, true, true, true, true, true, true, false, false, false, false, false] rfl (by kernel_rfl) rfl rfl (by decide) (fun _ _ _ h => h) ?_; clear hT; intro a hT
      refine d_off (i := 20) hT #[true, true, true, true, true, true, true, true, true, true, true, true, true, true, true, true, true, true, true, true, true, false, false, false, false] rfl (by kernel_rfl) rfl rfl (by decide) (fun _ _ _ h => h) ?_; clear hT; intro a hT
      refine d_off (i := 21) hT #[true, true, true, true, true, true, true, true, true, true, true, true, true, true, true, true, true, true, true, true, true, true, false, false, false] rfl (by kernel_rfl) rfl rfl (by decide) (fun _ _ _ h => h) ?_; clear hT; intro a hT
      refine d_off (i := 22) hT #[true, true, true, true, true, true, true, true, true, true, true, true, true, true, true, true, true, true, true, true, true, true, true, false, false] rfl (by kernel_rfl) rfl rfl (by decide) (fun _ _ _ h => h) ?_; clear hT; intro a hT
      refine d_pure (i := 23) hT #[true, true, true, true, true, true, true, true, true, true, true, true, true, true, true, true, true, true, true, true, true, true, true, true, false] rfl (by kernel_rfl) rfl rfl (by decide) (fun _ _ _ h => h) (fun _ => (q_pick hT rfl rfl rfl).v (v := (Value.bool true)) rfl) ?_; clear hT; intro a hT
      refine d_pure (i := 24) hT #[true, true, true, true, true, true, true, true, true, true, true, true, true, true, true, true, true, true, true, true, true, true, true, true, true] rfl (by kernel_rfl) rfl rfl (by decide) (fun _ _ _ h => h) (fun _ => q_assign hT rfl) ?_; clear hT; intro a hT
      refine d_done (by kernel_rfl) ?_; clear hR hS
      refine blk_norm ?_
      refine then_norm ?_
      refine c_region ?_
      refine l_q hT (q_move hT rfl) rfl rfl (by decide) ?_; clear hT; intro a hT
      refine l_q hT (q_addI hT rfl rfl (r := (t : Int) + 1) rfl (by omega) (by omega)) rfl rfl (by decide) ?_; clear hT; intro a hT
      refine l_q hT (q_assign hT rfl) rfl rfl (by decide) ?_; clear hT; intro a hT
      refine l_end ?_
      refine then_norm ?_
      have hth : (thereL ls pt (saysL pt (goL w pt 257 ls 0).2).1 (saysL pt (goL w pt 257 ls 0).2).2.1 (t + 1)) = true := by
        rw [thereL_succ pt _ _ (by omega)]
        first | rw [show (thereL ls pt (saysL pt (goL w pt 257 ls 0).2).1 (saysL pt (goL w pt 257 ls 0).2).2.1 t) = true from by assumption] | rw [show (thereL ls pt (saysL pt (goL w pt 257 ls 0).2).1 (saysL pt (goL w pt 257 ls 0).2).2.1 t) = false from by assumption]
        simp only [*, eq_self, decide_true, decide_false, Bool.or_true, Bool.or_false, Bool.false_or, Bool.true_or, Bool.and_true, Bool.and_false, Bool.true_and, Bool.false_and]
      exact ⟨_, ⟨t + 1, rfl, by omega, by rw [hth]; exact hT.keep [0, 1, 5, 7, 8, 10, 12, 13] rfl, hL⟩, by simp only [id]; omega⟩
    · rw [hc2] at hT
      refine d_pure (i := 2) hT #[true, true, true, false, false, false, false, false, false, false, false, false, false, false, false, false, false, false, false, false, false, false, false, false, false] rfl (by kernel_rfl) rfl rfl (by decide) (fun _ _ _ h => h) (fun _ => q_move hT rfl) ?_; clear hT; intro a hT
      refine d_pure (i := 3) hT #[true, true, true, true, false, false, false, false, false, false, false, false, false, false, false, false, false, false, false, false, false, false, false, false, false] rfl (by kernel_rfl) rfl rfl (by decide) (fun _ _ _ h => h) (fun _ => q_move hT rfl) ?_; clear hT; intro a hT
      obtain ⟨sb1, so1, hp1, hrd1⟩ := (hsl).2 (by omega)
      refine d_pure (i := 4) hT #[true, true, true, true, true, false, false, false, false, false, false, false, false, false, false, false, false, false, false, false, false, false, false, false, false] rfl (by kernel_rfl) rfl rfl (by decide) (fun _ _ _ h => h) (fun _ => q_indexAddr (b := sb1) (off := so1) (len := len) (cap := cap) hT (by rw [← hp1]; rfl) rfl Tryd.sli22 (by omega) (by omega)) ?_; clear hT; intro a hT
      refine d_pure (i := 5) hT #[true, true, true, true, true, true, false, false, false, false, false, false, false, false, false, false, false, false, false, false, false, false, false, false, false] rfl (by kernel_rfl) rfl rfl (by decide) (fun _ _ _ h => h) (fun _ => q_fieldAddr hT rfl Tryd.fld36_0 rfl) ?_; clear hT; intro a hT
      refine d_take (i := 6) hT #[true, true, true, true, true, true, true, false, false, false, false, false, false, false, false, false, false, false, false, false, false, false, false, false, false] rfl (by kernel_rfl) rfl rfl (by decide) (fun _ _ _ h => h) (fun _ hs => q_load_agg hT rfl Tryd.ty24 (Rd.ext ((Rd.loc (hrd1 t (by omega)) hR (by simp)).part 0 (ds := digC ((ls.getD t noLeaf).p)) rfl) hs) rfl) hS ?_; clear hT; intro a hT
      refine d_take (i := 7) hT #[true, true, true, true, true, true, true, true, false, false, false, false, false, false, false, false, false, false, false, false, false, false, false, false, false] rfl (by kernel_rfl) rfl rfl (by decide) (fun _ _ _ h => h) (fun _ hs => q_load_agg hT rfl Tryd.ty24 (Rd.ext (hR.rd 0 rfl 0 (ds := digC pt) rfl) hs) rfl) hS ?_; clear hT; intro a hT
      refine d_pure (i := 8) hT #[true, true, true, true, true, true, true, true, true, false, false, false, false, false, false, false, false, false, false, false, false, false, false, false, false] rfl (by kernel_rfl) rfl rfl (by decide) (fun _ _ _ h => h) (fun _ => q_eq_agg hT rfl rfl Tryd.eqg24 (EqR.dig Tryd.arr24 Tryd.underlying5 ((ls.getD t noLeaf).p) pt) (by decide)) ?_; clear hT; intro a hT
      refine d_pure (i := 9) hT #[true, true, true, true, true, true, true, true, true, true, false, false, false, false, false, false, false, false, false, false, false, false, false, false, false] rfl (by kernel_rfl) rfl rfl (by decide) (fun _ _ _ h => h) (fun _ => q_move hT rfl) ?_; clear hT; intro a hT
      rcases Bool.eq_false_or_eq_true (decide (((ls.getD t noLeaf).p) = pt)) with hc3 | hc3
      · rw [hc3] at hT
        have hc3 := of_decide_eq_true hc3
        refine d_pure (i := 10) hT #[true, true, true, true, true, true, true, true, true, true, true, false, false, false, false, false, false, false, false, false, false, false, false, false, false] rfl (by kernel_rfl) rfl rfl (by decide) (fun _ _ _ h => h) (fun _ => q_fieldAddr hT rfl Tryd.fld26_0 rfl) ?_; clear hT; intro a hT
        refine d_take (i := 11) hT #[true, true, true, true, true, true, true, true, true, true, true, true, false, false, false, false, false, false, false, false, false, false, false, false, false] rfl (by kernel_rfl) rfl rfl (by decide) (fun _ _ _ h => h) (fun _ hs => q_load hT rfl Tryd.ty4 (Rd.ext (hR.rd 1 rfl 0 (ds := [(Value.bool ((saysL pt (goL w pt 257 ls 0).2).1))]) rfl) hs)) hS ?_; clear hT; intro a hT
        refine d_pure (i := 12) hT #[true, true, true, true, true, true, true, true, true, true, true, true, true, false, false, false, false, false, false, false, false, false, false, false, false] rfl (by kernel_rfl) rfl rfl (by decide) (fun _ _ _ h => h) (fun _ => (q_pick hT rfl rfl rfl).v (v := (Value.bool ((saysL pt (goL w pt 257 ls 0).2).1))) rfl) ?_; clear hT; intro a hT
        refine d_pure (i := 13) hT #[true, true, true, true, true, true, true, true, true, true, true, true, true, true, false, false, false, false, false, false, false, false, false, false, false] rfl (by kernel_rfl) rfl rfl (by decide) (fun _ _ _ h => h) (fun _ => q_move hT rfl) ?_; clear hT; intro a hT
        rcases Bool.eq_false_or_eq_true ((saysL pt (goL w pt 257 ls 0).2).1) with hc4 | hc4
        · rw [hc4] at hT
          refine d_pure (i := 14) hT #[true, true, true, true, true, true, true, true, true, true, true, true, true, true, true, false, false, false, false, false, false, false, false, false, false] rfl (by kernel_rfl) rfl rfl (by decide) (fun _ _ _ h => h) (fun _ => q_move hT rfl) ?_; clear hT; intro a hT
          refine d_pure (i := 15) hT #[true, true, true, true, true, true, true, true, true, true, true, true, true, true, true, true, false, false, false, false, false, false, false, false, false] rfl (by kernel_rfl) rfl rfl (by decide) (fun _ _ _ h => h) (fun _ => q_move hT rfl) ?_; clear hT; intro a hT
          obtain ⟨sb2, so2, hp2, hrd2⟩ := (hsl).2 (by omega)
          refine d_pure (i := 16) hT #[true, true, true, true, true, true, true, true, true, true, true, true, true, true, true, true, true, false, false, false, false, false, false, false, false] rfl (by kernel_rfl) rfl rfl (by decide) (fun _ _ _ h => h) (fun _ => q_indexAddr (b := sb2) (off := so2) (len := len) (cap := cap) hT (by rw [← hp2]; rfl) rfl Tryd.sli22 (by omega) (by omega)) ?_; clear hT; intro a hT
          refine d_pure (i := 17) hT #[true, true, true, true, true, true, true, true, true, true, true, true, true, true, true, true, true, true, false, false, false, false, false, false, false] rfl (by kernel_rfl) rfl rfl (by decide) (fun _ _ _ h => h) (fun _ => q_fieldAddr hT rfl Tryd.fld36_1 rfl) ?_; clear hT; intro a hT
          refine d_pure (i := 19) hT #[true, true, true, true, true, true, true, true, true, true, true, true, true, true, true, true, true, true, false, true, false, false, false, false, false] rfl (by kernel_rfl) rfl rfl (by decide) (fun _ _ _ h => h) (fun _ => q_fieldAddr hT rfl Tryd.fld26_1 rfl) ?_; clear hT; intro a hT
          refine d_take (i := 18) hT #[true, true, true, true, true, true, true, true, true, true, true, true, true, true, true, true, true, true, true, true, false, false, false, false, false] rfl (by kernel_rfl) rfl rfl (by decide) (fun _ _ _ h => h) (fun _ hs => q_load_agg hT rfl Tryd.ty24 (Rd.ext ((Rd.loc (hrd2 t (by omega)) hR (by simp)).part 32 (ds := digC ((ls.getD t noLeaf).v)) rfl) hs) rfl) hS ?_; clear hT; intro a hT
          refine d_take (i := 20) hT #[true, true, true, true, true, true, true, true, true, true, true, true, true, true, true, true, true, true, true, true, true, false, false, false, false] rfl (by kernel_rfl) rfl rfl (by decide) (fun _ _ _ h => h) (fun _ hs => q_load_agg hT rfl Tryd.ty24 (Rd.ext (hR.rd 1 rfl 1 (ds := digC ((saysL pt (goL w pt 257 ls 0).2).2.1)) rfl) hs) rfl) hS ?_; clear hT; intro a hT
          refine d_pure (i := 21) hT #[true, true, true, true, true, true, true, true, true, true, true, true, true, true, true, true, true, true, true, true, true, true, false, false, false] rfl (by kernel_rfl) rfl rfl (by decide) (fun _ _ _ h => h) (fun _ => q_eq_agg hT rfl rfl Tryd.eqg24 (EqR.dig Tryd.arr24 Tryd.underlying5 ((ls.getD t noLeaf).v) ((saysL pt (goL w pt 257 ls 0).2).2.1)) (by decide)) ?_; clear hT; intro a hT
          refine d_pure (i := 22) hT #[true, true, true, true, true, true, true, true, true, true, true, true, true, true, true, true, true, true, true, true, true, true, true, false, false] rfl (by kernel_rfl) rfl rfl (by decide) (fun _ _ _ h => h) (fun _ => (q_pick hT rfl rfl rfl).v (v := (Value.bool (decide (((ls.getD t noLeaf).v) = ((saysL pt (goL w pt 257 ls 0).2).2.1))))) rfl) ?_; clear hT; intro a hT
          refine d_pure (i := 23) hT #[true, true, true, true, true, true, true, true, true, true, true, true, true, true, true, true, true, true, true, true, true, true, true, true, false] rfl (by kernel_rfl) rfl rfl (by decide) (fun _ _ _ h => h) (fun _ => (q_pick hT rfl rfl rfl).v (v := (Value.bool (decide (((ls.getD t noLeaf).v) = ((saysL pt (goL w pt 257 ls 0).2).2.1))))) rfl) ?_; clear hT; intro a hT
          refine d_pure (i := 24) hT #[true, true, true, true, true, true, true, true, true, true, true, true, true, true, true, true, true, true, true, true, true, true, true, true, true] rfl (by kernel_rfl) rfl rfl (by decide) (fun _ _ _ h => h) (fun _ => q_assign hT rfl) ?_; clear hT; intro a hT
          refine d_done (by kernel_rfl) ?_; clear hR hS
          refine blk_norm ?_
          refine then_norm ?_
          refine c_region ?_
          refine l_q hT (q_move hT rfl) rfl rfl (by decide) ?_; clear hT; intro a hT
          refine l_q hT (q_addI hT rfl rfl (r := (t : Int) + 1) rfl (by omega) (by omega)) rfl rfl (by decide) ?_; clear hT; intro a hT
          refine l_q hT (q_assign hT rfl) rfl rfl (by decide) ?_; clear hT; intro a hT
          refine l_end ?_
          refine then_norm ?_
          have hth : (thereL ls pt (saysL pt (goL w pt 257 ls 0).2).1 (saysL pt (goL w pt 257 ls 0).2).2.1 (t + 1)) = decide (((ls.getD t noLeaf).v) = ((saysL pt (goL w pt 257 ls 0).2).2.1)) := by
            rw [thereL_succ pt _ _ (by omega)]
            first | rw [show (thereL ls pt (saysL pt (goL w pt 257 ls 0).2).1 (saysL pt (goL w pt 257 ls 0).2).2.1 t) = true from by assumption] | rw [show (thereL ls pt (saysL pt (goL w pt 257 ls 0).2).1 (saysL pt (goL w pt 257 ls 0).2).2.1 t) = false from by assumption]
            simp only [*, eq_self, decide_true, decide_false, Bool.or_true, Bool.or_false, Bool.false_or, Bool.true_or, Bool.and_true, Bool.and_false, Bool.true_and, Bool.false_and]
          exact ⟨_, ⟨t + 1, rfl, by omega, by rw [hth]; exact hT.keep [0, 1, 5, 7, 8, 10, 12, 13] rfl, hL⟩, by simp only [id]; omega⟩
        · rw [hc4] at hT
          refine d_off (i := 14) hT #[true, true, true, true, true, true, true, true, true, true, true, true, true, true, true, false, false, false, false, false, false, false, false, false, false] rfl (by kernel_rfl) rfl rfl (by decide) (fun _ _ _ h => h) ?_; clear hT; intro a hT
          refine d_off (i := 15) hT #[true, true, true, true, true, true, true, true, true, true, true, true, true, true, true, true, false, false, false, false, false, false, false, false, false] rfl (by kernel_rfl) rfl rfl (by decide) (fun _ _ _ h => h) ?_; clear hT; intro a hT
          refine d_off (i := 16) hT #[true, true, true, true, true, true, true, true, true, true, true, true, true, true, true, true, true, false, false, false, false, false, false, false, false] rfl (by kernel_rfl) rfl rfl (by decide) (fun _ _ _ h => h) ?_; clear hT; intro a hT
          refine d_off (i := 17) hT #[true, true, true, true, true, true, true, true, true, true, true, true, true, true, true, true, true, true, false, false, false, false, false, false, false] rfl (by kernel_rfl) rfl rfl (by decide) (fun _ _ _ h => h) ?_; clear hT; intro a hT
          refine d_off (i := 18) hT #[true, true, true, true, true, true, true, true, true, true, true, true, true, true, true, true, true, true, true, false, false, false, false, false, false] rfl (by kernel_rfl) rfl rfl (by decide) (fun _ _ _ h => h) ?_; clear hT; intro a hT
          refine d_off (i := 19) hT #[true, true, true, true, true, true, true, true, true, true, true, true, true, true, true, true, true, true, true, true, false, false, false, false, false] rfl (by kernel_rfl) rfl rfl (by decide) (fun _ _ _ h => h) ?_; clear hT; intro a hT
          refine d_off (i := 20) hT #[true, true, true, true, true, true, true, true, true, true, true, true, true, true, true, true, true, true, true, true, true, false, false, false, false] rfl (by kernel_rfl) rfl rfl (by decide) (fun _ _ _ h => h) ?_; clear hT; intro a hT
          refine d_off (i := 21) hT #[true, true, true, true, true, true, true, true, true, true, true, true, true, true, true, true, true, true, true, true, true, true, false, false, false] rfl (by kernel_rfl) rfl rfl (by decide) (fun _ _ _ h => h) ?_; clear hT; intro a hT
          refine d_pure (i := 22) hT #[true, true, true, true, true, true, true, true, true, true, true, true, true, true, true, true, true, true, true, true, true, true, true, false, false] rfl (by kernel_rfl) rfl rfl (by decide) (fun _ _ _ h => h) (fun _ => (q_pick hT rfl rfl rfl).v (v := (Value.bool false)) rfl) ?_; clear hT; intro a hT
          refine d_pure (i := 23) hT #[true, true, true, true, true, true, true, true, true, true, true, true, true, true, true, true, true, true, true, true, true, true, true, true, false] rfl (by kernel_rfl) rfl rfl (by decide) (fun _ _ _ h => h) (fun _ => (q_pick hT rfl rfl rfl).v (v := (Value.bool false)) rfl) ?_; clear hT; intro a hT
          refine d_pure (i := 24) hT #[true, true, true, true, true, true, true, true, true, true, true, true, true, true, true, true, true, true, true, true, true, true, true, true, true] rfl (by kernel_rfl) rfl rfl (by decide) (fun _ _ _ h => h) (fun _ => q_assign hT rfl) ?_; clear hT; intro a hT
          refine d_done (by kernel_rfl) ?_; clear hR hS
          refine blk_norm ?_
          refine then_norm ?_
          refine c_region ?_
          refine l_q hT (q_move hT rfl) rfl rfl (by decide) ?_; clear hT; intro a hT
          refine l_q hT (q_addI hT rfl rfl (r := (t : Int) + 1) rfl (by omega) (by omega)) rfl rfl (by decide) ?_; clear hT; intro a hT
          refine l_q hT (q_assign hT rfl) rfl rfl (by decide) ?_; clear hT; intro a hT
          refine l_end ?_
          refine then_norm ?_
          have hth : (thereL ls pt (saysL pt (goL w pt 257 ls 0).2).1 (saysL pt (goL w pt 257 ls 0).2).2.1 (t + 1)) = false := by
            rw [thereL_succ pt _ _ (by omega)]
            first | rw [show (thereL ls pt (saysL pt (goL w pt 257 ls 0).2).1 (saysL pt (goL w pt 257 ls 0).2).2.1 t) = true from by assumption] | rw [show (thereL ls pt (saysL pt (goL w pt 257 ls 0).2).1 (saysL pt (goL w pt 257 ls 0).2).2.1 t) = false from by assumption]
            simp only [*, eq_self, decide_true, decide_false, Bool.or_true, Bool.or_false, Bool.false_or, Bool.true_or, Bool.and_true, Bool.and_false, Bool.true_and, Bool.false_and]
          exact ⟨_, ⟨t + 1, rfl, by omega, by rw [hth]; exact hT.keep [0, 1, 5, 7, 8, 10, 12, 13] rfl, hL⟩, by simp only [id]; omega⟩
      · rw [hc3] at hT
        have hc3 := of_decide_eq_false hc3
        refine d_off (i := 10) hT #[true, true, true, true, true, true, true, true, true, true, true, false, false, false, false, false, false, false, false, false, false, false, false, false, false] rfl (by kernel_rfl) rfl rfl (by decide) (fun _ _ _ h => h) ?_; clear hT; intro a hT
        refine d_off (i := 11) hT #[true, true, true, true, true, true, true, true, true, true, true, true, false, false, false, false, false, false, false, false, false, false, false, false, false] rfl (by kernel_rfl) rfl rfl (by decide) (fun _ _ _ h => h) ?_; clear hT; intro a hT
        refine d_pure (i := 12) hT #[true, true, true, true, true, true, true, true, true, true, true, true, true, false, false, false, false, false, false, false, false, false, false, false, false] rfl (by kernel_rfl) rfl rfl (by decide) (fun _ _ _ h => h) (fun _ => (q_pick hT rfl rfl rfl).v (v := (Value.bool false)) rfl) ?_; clear hT; intro a hT
        refine d_pure (i := 13) hT #[true, true, true, true, true, true, true, true, true, true, true, true, true, true, false, false, false, false, false, false, false, false, false, false, false] rfl (by kernel_rfl) rfl rfl (by decide) (fun _ _ _ h => h) (fun _ => q_move hT rfl) ?_; clear hT; intro a hT
        refine d_off (i := 14) hT #[true, true, true, true, true, true, true, true, true, true, true, true, true, true, true, false, false, false, false, false, false, false, false, false, false] rfl (by kernel_rfl) rfl rfl (by decide) (fun _ _ _ h => h) ?_; clear hT; intro a hT
        refine d_off (i := 15) hT #[true, true, true, true, true, true, true, true, true, true, true, true, true, true, true, true, false, false, false, false, false, false, false, false, false] rfl (by kernel_rfl) rfl rfl (by decide) (fun _ _ _ h => h) ?_; clear hT; intro a hT
        refine d_off (i := 16) hT #[true, true, true, true, true, true, true, true, true, true, true, true, true, true, true, true, true, false, false, false, false, false, false, false, false] rfl (by kernel_rfl) rfl rfl (by decide) (fun _ _ _ h => h) ?_; clear hT; intro a hT
        refine d_off (i := 17) hT #[true, true, true, true, true, true, true, true, true, true, true, true, true, true, true, true, true, true, false, false, false, false, false, false, false] rfl (by kernel_rfl) rfl rfl (by decide) (fun _ _ _ h => h) ?_; clear hT; intro a hT
        refine d_off (i := 18) hT #[true, true, true, true, true, true, true, true, true, true, true, true, true, true, true, true, true, true, true, false, false, false, false, false, false] rfl (by kernel_rfl) rfl rfl (by decide) (fun _ _ _ h => h) ?_; clear hT; intro a hT
        refine d_off (i := 19) hT #[true, true, true, true, true, true, true, true, true, true, true, true, true, true, true, true, true, true, true, true, false, false, false, false, false] rfl (by kernel_rfl) rfl rfl (by decide) (fun _ _ _ h => h) ?_; clear hT; intro a hT
        refine d_off (i := 20) hT #[true, true, true, true, true, true, true, true, true, true, true, true, true, true, true, true, true, true, true, true, true, false, false, false, false] rfl (by kernel_rfl) rfl rfl (by decide) (fun _ _ _ h => h) ?_; clear hT; intro a hT
        refine d_off (i := 21) hT #[true, true, true, true, true, true, true, true, true, true, true, true, true, true, true, true, true, true, true, true, true, true, false, false, false] rfl (by kernel_rfl) rfl rfl (by decide) (fun _ _ _ h => h) ?_; clear hT; intro a hT
        refine d_pure (i := 22) hT #[true, true, true, true, true, true, true, true, true, true, true, true, true, true, true, true, true, true, true, true, true, true, true, false, false] rfl (by kernel_rfl) rfl rfl (by decide) (fun _ _ _ h => h) (fun _ => (q_pick hT rfl rfl rfl).v (v := (Value.bool false)) rfl) ?_; clear hT; intro a hT
        refine d_pure (i := 23) hT #[true, true, true, true, true, true, true, true, true, true, true, true, true, true, true, true, true, true, true, true, true, true, true, true, false] rfl (by kernel_rfl) rfl rfl (by decide) (fun _ _ _ h => h) (fun _ => (q_pick hT rfl rfl rfl).v (v := (Value.bool false)) rfl) ?_; clear hT; intro a hT
        refine d_pure (i := 24) hT #[true, true, true, true, true, true, true, true, true, true, true, true, true, true, true, true, true, true, true, true, true, true, true, true, true] rfl (by kernel_rfl) rfl rfl (by decide) (fun _ _ _ h => h) (fun _ => q_assign hT rfl) ?_; clear hT; intro a hT
        refine d_done (by kernel_rfl) ?_; clear hR hS
        refine blk_norm ?_
        refine then_norm ?_
        refine c_region ?_
        refine l_q hT (q_move hT rfl) rfl rfl (by decide) ?_; clear hT; intro a hT
        refine l_q hT (q_addI hT rfl rfl (r := (t : Int) + 1) rfl (by omega) (by omega)) rfl rfl (by decide) ?_; clear hT; intro a hT
        refine l_q hT (q_assign hT rfl) rfl rfl (by decide) ?_; clear hT; intro a hT
        refine l_end ?_
        refine then_norm ?_
        have hth : (thereL ls pt (saysL pt (goL w pt 257 ls 0).2).1 (saysL pt (goL w pt 257 ls 0).2).2.1 (t + 1)) = false := by
          rw [thereL_succ pt _ _ (by omega)]
          first | rw [show (thereL ls pt (saysL pt (goL w pt 257 ls 0).2).1 (saysL pt (goL w pt 257 ls 0).2).2.1 t) = true from by assumption] | rw [show (thereL ls pt (saysL pt (goL w pt 257 ls 0).2).1 (saysL pt (goL w pt 257 ls 0).2).2.1 t) = false from by assumption]
          simp only [*, eq_self, decide_true, decide_false, Bool.or_true, Bool.or_false, Bool.false_or, Bool.true_or, Bool.and_true, Bool.and_false, Bool.true_and, Bool.false_and]
        exact ⟨_, ⟨t + 1, rfl, by omega, by rw [hth]; exact hT.keep [0, 1, 5, 7, 8, 10, 12, 13] rfl, hL⟩, by simp only [id]; omega⟩
  · skip
    have hc1 := of_decide_eq_false hc1
    obtain rfl : t = len := by omega
    rw [← hlen, hthere] at hT
    refine wp_exit ?_
    refine then_exit ?_
    refine then_exit ?_
    refine blk_exit ?_
    refine then_norm ?_
    refine c_seq ?_
    refine c_region ?_
    refine l_do rfl ?_
    refine w_callT (xs := []) hT rfl (vs := []) rfl (args := #[]) rfl Tryd.func6 rfl rfl (by decide) ((makes_spec _ (hK.of hL (by simp))).mono ?_)
    rintro e w12 ⟨rfl, hX⟩
    refine ⟨_, rfl, ?_⟩; clear hT; intro a hT; replace hT : Tm 95 a ((76, (Value.bool true)) :: _) := hT
    replace hL := hL.ext hX
    refine l_q hT (q_move hT rfl) rfl rfl (by decide) ?_; clear hT; intro a hT
    refine l_on hT rfl rfl rfl rfl ?_
    refine w_callT (xs := []) hT rfl (vs := []) rfl (args := #[]) rfl Tryd.func9 rfl rfl (by decide) ((checks_spec _ (hK.of hL (by simp))).mono ?_)
    rintro e w13 ⟨rfl, hX⟩
    refine ⟨_, rfl, ?_⟩; clear hT; intro a hT; replace hT : Tm 95 a ((78, (Value.bool true)) :: _) := hT
    replace hL := hL.ext hX
    refine l_q hT ((q_pick hT rfl rfl rfl).v (v := (Value.bool true)) rfl) rfl rfl (by decide) ?_; clear hT; intro a hT
    refine l_q hT (q_move hT rfl) rfl rfl (by decide) ?_; clear hT; intro a hT
    refine l_on hT rfl rfl rfl rfl (w_q hT (q_move hT rfl) rfl (by decide) ?_); clear hT; intro a hT
    refine l_on hT rfl rfl rfl rfl (w_q hT (q_fieldAddr hT rfl Tryd.fld26_0 rfl) rfl (by decide) ?_); clear hT; intro a hT
    refine l_on hT rfl rfl rfl rfl (w_q hT (q_load hT rfl Tryd.ty4 (hL.rd 1 rfl 0 (ds := [(Value.bool ((saysL pt (goL w pt 257 ls 0).2).1))]) rfl)) rfl (by decide) ?_); clear hT; intro a hT
    refine l_on hT rfl rfl rfl rfl (w_q hT ((q_eq_bool hT rfl rfl Tryd.underlying4).b (b := true) (by simp)) rfl (by decide) ?_); clear hT; intro a hT
    refine l_q hT ((q_pick hT rfl rfl rfl).v (v := (Value.bool true)) rfl) rfl rfl (by decide) ?_; clear hT; intro a hT
    refine l_q hT (q_move hT rfl) rfl rfl (by decide) ?_; clear hT; intro a hT
    refine l_on hT rfl rfl rfl rfl (w_q hT (q_move hT rfl) rfl (by decide) ?_); clear hT; intro a hT
    refine l_on hT rfl rfl rfl rfl (w_q hT (q_load_agg hT rfl Tryd.ty24 (hL.rd 3 rfl 0 (ds := digC (rootD w ls)) rfl) rfl) rfl (by decide) ?_); clear hT; intro a hT
    refine l_on hT rfl rfl rfl rfl (w_q hT (q_load_agg hT rfl Tryd.ty24 (hL.rd 0 rfl 0 (ds := digC pt) rfl) rfl) rfl (by decide) ?_); clear hT; intro a hT
    refine l_on hT rfl rfl rfl rfl (w_q hT (q_load_agg hT rfl Tryd.ty26 (hL.rd 1 rfl 0 (ds := [(Value.bool ((saysL pt (goL w pt 257 ls 0).2).1))] ++ (digC ((saysL pt (goL w pt 257 ls 0).2).2.1))) rfl) rfl) rfl (by decide) ?_); clear hT; intro a hT
    refine l_on hT rfl rfl rfl rfl (w_q hT (q_load_agg hT rfl Tryd.ty29 (hL.rd 2 rfl 0 (ds := [(Value.slice ps ((goL w pt 257 ls 0).1.length) cps), (Value.bool ((saysL pt (goL w pt 257 ls 0).2).2.2.1))] ++ (digC ((saysL pt (goL w pt 257 ls 0).2).2.2.2.1) ++ (digC ((saysL pt (goL w pt 257 ls 0).2).2.2.2.2)))) rfl) rfl) rfl (by decide) ?_); clear hT; intro a hT
    refine l_on hT rfl rfl rfl rfl ?_
    refine w_callT (xs := [.tmp 87, .tmp 88, .tmp 89, .tmp 90, .tmp 91]) hT rfl (vs := [(vI w), (Value.agg (digC (rootD w ls)).toArray), (Value.agg (digC pt).toArray), (Value.agg ([(Value.bool ((saysL pt (goL w pt 257 ls 0).2).1))] ++ (digC ((saysL pt (goL w pt 257 ls 0).2).2.1))).toArray), (Value.agg ([(Value.slice ps ((goL w pt 257 ls 0).1.length) cps), (Value.bool ((saysL pt (goL w pt 257 ls 0).2).2.2.1))] ++ (digC ((saysL pt (goL w pt 257 ls 0).2).2.2.2.1) ++ (digC ((saysL pt (goL w pt 257 ls 0).2).2.2.2.2)))).toArray)]) rfl (args := #[(vI w), (Value.agg (digC (rootD w ls)).toArray), (Value.agg (digC pt).toArray), (Value.agg ([(Value.bool ((saysL pt (goL w pt 257 ls 0).2).1))] ++ (digC ((saysL pt (goL w pt 257 ls 0).2).2.1))).toArray), (Value.agg ([(Value.slice ps ((goL w pt 257 ls 0).1.length) cps), (Value.bool ((saysL pt (goL w pt 257 ls 0).2).2.2.1))] ++ (digC ((saysL pt (goL w pt 257 ls 0).2).2.2.2.1) ++ (digC ((saysL pt (goL w pt 257 ls 0).2).2.2.2.2)))).toArray)]) rfl Tryd.func10 rfl rfl (by decide) ((Check_go (madeS w ls pt) ps (goL w pt 257 ls 0).1.length cps (rootD w ls) hwd rfl (by omega) (made_may pt hgd) _ (KeysAt.of hK hL (by simp)) (hsib.slt digC_len hL (i := 4) rfl)).mono ?_)
    rintro e w14 ⟨rfl, hX⟩
    refine ⟨_, rfl, ?_⟩; clear hT; intro a hT; replace hT : Tm 95 a ((92, (vI (if (madeS w ls pt).top = rootD w ls then 0 else 41))) :: _) := hT
    replace hL := hL.ext hX
    rw [if_pos (show (madeS w ls pt).top = rootD w ls by rw [made_top pt hgd, rootD, if_pos he, dg_rev])] at hT
    refine l_on hT rfl rfl rfl rfl (w_q hT ((q_eql hT rfl rfl).b (b := true) rfl) rfl (by decide) ?_); clear hT; intro a hT
    refine l_q hT ((q_pick hT rfl rfl rfl).v (v := (Value.bool true)) rfl) rfl rfl (by decide) ?_; clear hT; intro a hT
    refine l_q hT (q_assign hT rfl) rfl rfl (by decide) ?_; clear hT; intro a hT
    refine l_end ?_
    refine then_norm ?_
    refine wp_ret ?_
    refine c_ret (vs := [(Value.bool true)]) (rs := [.tmp 6]) hT rfl (.tmp rfl .nil) ?_
    exact ⟨rfl, hL.drop⟩

theorem pr_all (w : Int) (ls : List Leaf) (p : Option Addr) (len cap : Nat) (pt : Dig) (w0 : World) (hK : KeysAt w0) (hsl : SlT w0 p len 64 leafC noLeaf ls) : Calls Tryd.prog 4 #[vI w, .slice p len cap, dv pt] w0 fun e w' => e = .returned (.bool true) ∧ Ext w0 w' := by
  by_cases hl : 200 < len
  · exact pr_many w ls p len cap pt hl w0 hK hsl
  · by_cases he : rootE w ls = 0
    · exact pr_ok w ls p len cap pt (by omega) he w0 hK hsl
    · exact pr_err w ls p len cap pt (by omega) he w0 hK hsl

end Go.Proofs.YtcaffacganffjaaDoor
end
