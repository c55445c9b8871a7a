/- The walks of a part of the program: GLaw6a. Printed by a program of the prover. -/
import Derived.Test.YtcaffacganffjaaDoorVDig
import Derived.Test.YtcaffacganffjaaDoorVTypes
import Derived.Test.YtcaffacganffjaaDoorGMake
import Derived.Test.YtcaffacganffjaaDoorVLaw6
namespace Go.Proofs.YtcaffacganffjaaDoor
open Go Go.Vg


set_option maxRecDepth 20000 in
set_option maxHeartbeats 1000000 in
theorem law06a_spec  (w0 : World) :
    Calls Tryd.prog 14 #[] w0 fun e w' => e = .returned (leafV aL) ∧ Ext w0 w' := by
  refine c_enter (n := 3) (args := []) Tryd.func14 rfl rfl (Nat.le_of_ble_eq_true rfl) rfl (fun a hT => ?_)
  simp only [List.zipIdx_cons, List.zipIdx_nil, List.map_cons, List.map_nil, Nat.reduceAdd] at hT
  have hL := Vg.Loc.refl [] w0
  refine c_seq ?_
  refine c_region ?_
  refine l_do rfl ?_
  refine w_alloc hT hL (by decide) Tryd.ty36 ?_; clear hT hL; intro b1 a w1 hT hL hE hB
  refine l_end ?_
  refine then_norm ?_
  refine c_seq ?_
  refine c_region ?_
  refine l_q hT (q_build (ps := [(0, .const (.int .u8 5))]) (pv := [(0, (v8 5))]) (v := .agg ([(v8 5)] ++ (List.replicate 31 (v8 0))).toArray) hT rfl (fun _ => by kernel_rfl)) rfl rfl (by decide) ?_; clear hT; intro a hT
  refine l_q hT (q_build (ps := [(1, .tmp 1)]) (pv := [(1, (Value.agg ([(v8 5)] ++ (List.replicate 31 (v8 0))).toArray))]) (v := .agg (digC Dig.zero ++ ([(v8 5)] ++ (List.replicate 31 (v8 0)))).toArray) hT rfl (fun _ => by kernel_rfl)) rfl rfl (by decide) ?_; clear hT; intro a hT
  refine l_do rfl ?_
  refine w_store hT hL 0 (c := digC Dig.zero ++ (digC Dig.zero)) rfl rfl Tryd.ty36 rfl (vs := digC Dig.zero ++ ([(v8 5)] ++ (List.replicate 31 (v8 0)))) rfl rfl (by first | decide | (simp [arr32_len, arr8_len, digC_len]; done) | (simp [arr32_len, arr8_len, digC_len]; omega)) rfl (c' := digC Dig.zero ++ ([(v8 5)] ++ (List.replicate 31 (v8 0)))) rfl ?_; clear hL; intro w2 hL hE
  replace hL : Vg.Loc [] w0 w2 ([[(b1, ob (digC Dig.zero ++ ([(v8 5)] ++ (List.replicate 31 (v8 0)))) 36)]]) := hL
  refine l_end ?_
  refine then_norm ?_
  refine wp_ret ?_
  refine c_ret (vs := [(Value.agg (digC Dig.zero ++ ([(v8 5)] ++ (List.replicate 31 (v8 0)))).toArray)]) (rs := [.cell 0 36]) hT rfl (.agg rfl Tryd.ty36 (hL.rd 0 rfl 0 (ds := digC Dig.zero ++ ([(v8 5)] ++ (List.replicate 31 (v8 0)))) rfl) rfl .nil) ?_
  exact ⟨rfl, hL.drop⟩

set_option maxRecDepth 20000 in
set_option maxHeartbeats 1000000 in
theorem law06b_spec  (w0 : World) :
    Calls Tryd.prog 15 #[] w0 fun e w' => e = .returned (leafV bL) ∧ Ext w0 w' := by
  refine c_enter (n := 4) (args := []) Tryd.func15 rfl rfl (Nat.le_of_ble_eq_true rfl) rfl (fun a hT => ?_)
  simp only [List.zipIdx_cons, List.zipIdx_nil, List.map_cons, List.map_nil, Nat.reduceAdd] at hT
  have hL := Vg.Loc.refl [] w0
  refine c_seq ?_
  refine c_region ?_
  refine l_do rfl ?_
  refine w_alloc hT hL (by decide) Tryd.ty36 ?_; clear hT hL; intro b1 a w1 hT hL hE hB
  refine l_end ?_
  refine then_norm ?_
  refine c_seq ?_
  refine c_region ?_
  refine l_q hT (q_build (ps := [(0, .const (.int .u8 128))]) (pv := [(0, (v8 128))]) (v := .agg ([(v8 128)] ++ (List.replicate 31 (v8 0))).toArray) hT rfl (fun _ => by kernel_rfl)) rfl rfl (by decide) ?_; clear hT; intro a hT
  refine l_q hT (q_build (ps := [(0, .const (.int .u8 6))]) (pv := [(0, (v8 6))]) (v := .agg ([(v8 6)] ++ (List.replicate 31 (v8 0))).toArray) hT rfl (fun _ => by kernel_rfl)) rfl rfl (by decide) ?_; clear hT; intro a hT
  refine l_q hT (q_build (ps := [(0, .tmp 1), (1, .tmp 2)]) (pv := [(0, (Value.agg ([(v8 128)] ++ (List.replicate 31 (v8 0))).toArray)), (1, (Value.agg ([(v8 6)] ++ (List.replicate 31 (v8 0))).toArray))]) (v := .agg ([(v8 128)] ++ (List.replicate 31 (v8 0) ++ ([(v8 6)] ++ (List.replicate 31 (v8 0))))).toArray) hT rfl (fun _ => by kernel_rfl)) rfl rfl (by decide) ?_; clear hT; intro a hT
  refine l_do rfl ?_
  refine w_store hT hL 0 (c := digC Dig.zero ++ (digC Dig.zero)) rfl rfl Tryd.ty36 rfl (vs := [(v8 128)] ++ (List.replicate 31 (v8 0) ++ ([(v8 6)] ++ (List.replicate 31 (v8 0))))) rfl rfl (by first | decide | (simp [arr32_len, arr8_len, digC_len]; done) | (simp [arr32_len, arr8_len, digC_len]; omega)) rfl (c' := [(v8 128)] ++ (List.replicate 31 (v8 0) ++ ([(v8 6)] ++ (List.replicate 31 (v8 0))))) rfl ?_; clear hL; intro w2 hL hE
  replace hL : Vg.Loc [] w0 w2 ([[(b1, ob ([(v8 128)] ++ (List.replicate 31 (v8 0) ++ ([(v8 6)] ++ (List.replicate 31 (v8 0))))) 36)]]) := hL
  refine l_end ?_
  refine then_norm ?_
  refine wp_ret ?_
  refine c_ret (vs := [(Value.agg ([(v8 128)] ++ (List.replicate 31 (v8 0) ++ ([(v8 6)] ++ (List.replicate 31 (v8 0))))).toArray)]) (rs := [.cell 0 36]) hT rfl (.agg rfl Tryd.ty36 (hL.rd 0 rfl 0 (ds := [(v8 128)] ++ (List.replicate 31 (v8 0) ++ ([(v8 6)] ++ (List.replicate 31 (v8 0))))) rfl) rfl .nil) ?_
  exact ⟨rfl, hL.drop⟩

theorem make_ab (p : Option Addr) (cap : Nat) (w0 : World) (hK : KeysAt w0) (hsl : SlT w0 p 2 64 leafC noLeaf [aL, bL]) : Calls Tryd.prog 5 #[vI 32, .slice p 2 cap, dv aL.p] w0 fun e w' =>
    ∃ g cps junk, e = .returned (.tuple #[.agg (claimC true aL.v).toArray, .agg (proofC (.slice (some ⟨g, 0, none⟩) 1 cps) false Dig.zero Dig.zero).toArray, vI 0]) ∧ Vg.Loc [] w0 w' [[(g, ob (digC (leafD 32 bL) ++ junk) 24)]] := by
  refine (make_ok 32 [aL, bL] p 2 cap aL.p (by decide) ab_root w0 hK hsl).mono ?_
  rintro e w' ⟨ps, cps, cs, he, hL, ho⟩
  rw [ab_go] at he ho
  obtain ⟨g, junk, rfl, rfl⟩ := ho.some (by decide)
  simp only [a_says] at he
  exact ⟨g, cps, junk, he, by simpa using hL⟩
theorem make_a (p : Option Addr) (cap : Nat) (w0 : World) (hK : KeysAt w0) (hsl : SlT w0 p 1 64 leafC noLeaf [aL]) : Calls Tryd.prog 5 #[vI 32, .slice p 1 cap, dv bL.p] w0 fun e w' =>
    ∃ ps cps, e = .returned (.tuple #[.agg (claimC false Dig.zero).toArray, .agg (proofC (.slice ps 0 cps) true aL.p aL.v).toArray, vI 0]) ∧ Ext w0 w' := by
  refine (make_ok 32 [aL] p 1 cap bL.p (by decide) a_root w0 hK hsl).mono ?_
  rintro e w' ⟨ps, cps, cs, he, hL, ho⟩
  rw [a_go] at he
  simp only [b_says] at he
  exact ⟨ps, cps, he, hL.drop⟩

end Go.Proofs.YtcaffacganffjaaDoor
