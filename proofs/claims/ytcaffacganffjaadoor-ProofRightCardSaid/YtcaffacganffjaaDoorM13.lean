/- The walks of a part of the program: GChk3. Printed by a program of the prover. The walks of a part of the program: GChk4. Printed by a program of the prover. What is made is right: the plain law of ProofRight. -/
import Derived.Test.YtcaffacganffjaaDoorM2
import Derived.Test.YtcaffacganffjaaDoorM6
import Derived.Test.YtcaffacganffjaaDoorM12
import Derived.Test.YtcaffacganffjaaDoorM9

section
namespace Go.Proofs.YtcaffacganffjaaDoor
open Go Go.Vg


set_option maxRecDepth 20000 in
set_option maxHeartbeats 1000000 in
theorem rungs_spec (s : Said) (q : Option Addr) (nd cq : Nat) (w0 : World) :
    Calls Tryd.prog 35 #[(Value.agg ([(vI s.w)] ++ (digC s.p ++ ([(Value.bool s.pr)] ++ (digC s.v ++ ([(Value.slice q nd cq), (Value.bool s.o)] ++ (digC s.ox ++ (digC s.ov))))))).toArray)] w0 fun e w' => ∃ b, e = .returned (.func (.func 49) #[] #[vp b 0]) ∧ Vg.Loc [] w0 w' [[(b, ob ([(vI s.w)] ++ (digC s.p ++ ([(Value.bool s.pr)] ++ (digC s.v ++ ([(Value.slice q nd cq), (Value.bool s.o)] ++ (digC s.ox ++ (digC s.ov))))))) 54)]] := by
  refine c_enter (n := 4) (args := [(Value.agg ([(vI s.w)] ++ (digC s.p ++ ([(Value.bool s.pr)] ++ (digC s.v ++ ([(Value.slice q nd cq), (Value.bool s.o)] ++ (digC s.ox ++ (digC s.ov))))))).toArray)]) Tryd.func35 rfl rfl (Nat.le_of_ble_eq_true rfl) rfl (fun a hT => ?_)
  simp only [List.zipIdx_cons, List.zipIdx_nil, List.map_cons, List.map_nil, Nat.reduceAdd] at hT
  have hL := Vg.Loc.refl [] w0
  refine c_seq ?_
  refine c_region ?_
  refine l_do rfl ?_
  refine w_box hT hL (by decide) rfl (c := [(vI s.w)] ++ (digC s.p ++ ([(Value.bool s.pr)] ++ (digC s.v ++ ([(Value.slice q nd cq), (Value.bool s.o)] ++ (digC s.ox ++ (digC s.ov))))))) rfl ?_; clear hT hL; intro b1 a w1 hT hL hE hB
  refine l_q hT (q_assign hT rfl) rfl rfl (by decide) ?_; clear hT; intro a hT
  refine l_end ?_
  refine then_norm ?_
  refine c_seq ?_
  refine c_region ?_
  refine l_q hT (q_makeFunc (fs := []) (cs := [.tmp 1]) hT rfl rfl) rfl rfl (by decide) ?_; clear hT; intro a hT
  refine l_q hT (q_assign hT rfl) rfl rfl (by decide) ?_; clear hT; intro a hT
  refine l_end ?_
  refine then_norm ?_
  refine wp_ret ?_
  refine c_ret (vs := [(Value.func (Fn.func 49) #[] #[(vp b1 0)])]) (rs := [.tmp 2]) hT rfl (.tmp rfl .nil) ?_
  exact ⟨_, rfl, hL⟩

set_option maxRecDepth 100000 in
set_option maxHeartbeats 4000000 in
theorem rungs_iter (s : Said) (q : Option Addr) (nd cq sb : Nat) (hw : widthB s.w = true) (hnd : s.ds.length = nd) (hn6 : nd ≤ 256) (B : Nat) (w0 : World) (hK : KeysAt w0) (hKB : 0 < B) (hBw0 : B ≤ w0.heap.size) (hsl : SlT w0 q nd 32 digC Dig.zero s.ds) (hqB : 0 < nd → ∀ ad : Addr, q = some ad → ad.block < B) :
    Iter Tryd.prog 49 [(vp sb 0)] (nd + 1) (fun k c W vs => ∃ (p : Option Addr) (n cap : Nat), vs = [.slice p n cap] ∧ n ≤ cap ∧ SlB W p n (s.rb k) ∧ (0 < n → ∀ ad : Addr, p = some ad → ad.block ∉ keys c)) [[(sb, ob ([(vI s.w)] ++ (digC s.p ++ ([(Value.bool s.pr)] ++ (digC s.v ++ ([(Value.slice q nd cq), (Value.bool s.o)] ++ (digC s.ox ++ (digC s.ov))))))) 54)]] B w0 := by
  intro l ci J Jx hJ hL0 hBci hy
  refine c_enterI (n := 42) (args := [(Value.func (Fn.yield l) #[] #[]), (vp sb 0)]) Tryd.func49 rfl rfl (Nat.le_of_ble_eq_true rfl) rfl (fun a hT => ?_)
  simp only [List.zipIdx_cons, List.zipIdx_nil, List.map_cons, List.map_nil, Nat.reduceAdd] at hT
  refine with_outM (fun w h => by simp at h) (fun hOut => ?_)
  have hL : Vg.Loc (keys ([[(sb, ob ([(vI s.w)] ++ (digC s.p ++ ([(Value.bool s.pr)] ++ (digC s.v ++ ([(Value.slice q nd cq), (Value.bool s.o)] ++ (digC s.ox ++ (digC s.ov))))))) 54)]] ++ ci)) w0 w0 ([[(sb, ob ([(vI s.w)] ++ (digC s.p ++ ([(Value.bool s.pr)] ++ (digC s.v ++ ([(Value.slice q nd cq), (Value.bool s.o)] ++ (digC s.ox ++ (digC s.ov))))))) 54)]] ++ ci) := hL0
  refine c_seqI ?_
  refine c_regionI WF.wide (noOut_then hOut) rfl ?_
  refine l_do rfl ?_
  refine w_box hT hL (by decide) rfl (c := [(Value.func (Fn.yield l) #[] #[])]) rfl ?_; clear hT hL; intro b1 a w1 hT hL hE hB
  refine l_end ?_
  refine then_norm ?_
  refine c_seqI ?_
  refine c_regionI WF.wide (noOut_then hOut) rfl ?_
  refine l_q hT (q_load_agg hT rfl Tryd.ty54 (hL.rd 1 rfl 0 (ds := [(vI s.w)] ++ (digC s.p ++ ([(Value.bool s.pr)] ++ (digC s.v ++ ([(Value.slice q nd cq), (Value.bool s.o)] ++ (digC s.ox ++ (digC s.ov))))))) rfl) rfl) rfl rfl (by decide) ?_; clear hT; intro a hT
  refine l_do rfl ?_
  refine w_callT (xs := [.tmp 8]) hT rfl (vs := [(Value.agg ([(vI s.w)] ++ (digC s.p ++ ([(Value.bool s.pr)] ++ (digC s.v ++ ([(Value.slice q nd cq), (Value.bool s.o)] ++ (digC s.ox ++ (digC s.ov))))))).toArray)]) rfl (args := #[(Value.agg ([(vI s.w)] ++ (digC s.p ++ ([(Value.bool s.pr)] ++ (digC s.v ++ ([(Value.slice q nd cq), (Value.bool s.o)] ++ (digC s.ox ++ (digC s.ov))))))).toArray)]) rfl Tryd.func50 rfl rfl (by decide) ((start_spec s q nd cq _).mono ?_)
  rintro e w2 ⟨pb1, nb1, cpb1, cb1, rfl, hX, hb1⟩
  refine ⟨_, rfl, ?_⟩; clear hT; intro a hT; replace hT : Tm 42 a ((9, (Value.slice pb1 nb1 cpb1)) :: _) := hT
  replace hL : Vg.Loc (keys ([[(sb, ob ([(vI s.w)] ++ (digC s.p ++ ([(Value.bool s.pr)] ++ (digC s.v ++ ([(Value.slice q nd cq), (Value.bool s.o)] ++ (digC s.ox ++ (digC s.ov))))))) 54)]] ++ ci)) w0 w2 ([cb1, [(b1, ob [(Value.func (Fn.yield l) #[] #[])] 100)], [(sb, ob ([(vI s.w)] ++ (digC s.p ++ ([(Value.bool s.pr)] ++ (digC s.v ++ ([(Value.slice q nd cq), (Value.bool s.o)] ++ (digC s.ox ++ (digC s.ov))))))) 54)]] ++ ci) := hL.exts hX
  refine l_do rfl ?_
  refine w_alloc hT hL (by decide) Tryd.ty73 ?_; clear hT hL; intro b2 a w3 hT hL hE hB
  refine l_do rfl ?_
  refine w_store hT hL 0 (c := [(Value.slice none 0 0)]) rfl rfl Tryd.ty73 rfl (vs := [(Value.slice pb1 nb1 cpb1)]) rfl rfl (by first | decide | (simp [arr32_len, arr8_len, digC_len]; done) | (simp [arr32_len, arr8_len, digC_len]; omega)) rfl (c' := [(Value.slice pb1 nb1 cpb1)]) rfl ?_; clear hL; intro w4 hL hE
  replace hL : Vg.Loc (keys ([[(sb, ob ([(vI s.w)] ++ (digC s.p ++ ([(Value.bool s.pr)] ++ (digC s.v ++ ([(Value.slice q nd cq), (Value.bool s.o)] ++ (digC s.ox ++ (digC s.ov))))))) 54)]] ++ ci)) w0 w4 ([[(b2, ob [(Value.slice pb1 nb1 cpb1)] 73)], cb1, [(b1, ob [(Value.func (Fn.yield l) #[] #[])] 100)], [(sb, ob ([(vI s.w)] ++ (digC s.p ++ ([(Value.bool s.pr)] ++ (digC s.v ++ ([(Value.slice q nd cq), (Value.bool s.o)] ++ (digC s.ox ++ (digC s.ov))))))) 54)]] ++ ci) := hL
  refine l_end ?_
  refine then_norm ?_
  refine c_seqI ?_
  refine c_seqI ?_
  refine c_regionI WF.wide (noOut_then (noOut_then hOut)) rfl ?_
  refine l_q hT (q_fieldAddr hT rfl Tryd.fld54_3 rfl) rfl rfl (by decide) ?_; clear hT; intro a hT
  refine l_q hT (q_fieldAddr hT rfl Tryd.fld29_0 rfl) rfl rfl (by decide) ?_; clear hT; intro a hT
  refine l_q hT (q_load hT rfl Tryd.ty27 (hL.rd 3 rfl 66 (ds := [(Value.slice q nd cq)]) rfl)) rfl rfl (by decide) ?_; clear hT; intro a hT
  refine l_do rfl ?_
  refine w_callT (xs := [.tmp 12]) hT rfl (vs := [(Value.slice q nd cq)]) rfl (args := #[(Value.slice q nd cq)]) rfl Tryd.func51 rfl rfl (by decide) ((Backward_spec q nd cq _).mono ?_)
  rintro e w5 ⟨bk1, rfl, hX⟩
  refine ⟨_, rfl, ?_⟩; clear hT; intro a hT; replace hT : Tm 42 a ((13, (Value.func (Fn.func 60) #[] #[(vp bk1 0)])) :: _) := hT
  replace hL : Vg.Loc (keys ([[(sb, ob ([(vI s.w)] ++ (digC s.p ++ ([(Value.bool s.pr)] ++ (digC s.v ++ ([(Value.slice q nd cq), (Value.bool s.o)] ++ (digC s.ox ++ (digC s.ov))))))) 54)]] ++ ci)) w0 w5 ([[(bk1, ob [(Value.slice q nd cq)] 27)], [(b2, ob [(Value.slice pb1 nb1 cpb1)] 73)], cb1, [(b1, ob [(Value.func (Fn.yield l) #[] #[])] 100)], [(sb, ob ([(vI s.w)] ++ (digC s.p ++ ([(Value.bool s.pr)] ++ (digC s.v ++ ([(Value.slice q nd cq), (Value.bool s.o)] ++ (digC s.ox ++ (digC s.ov))))))) 54)]] ++ ci) := hL.exts hX
  refine l_end ?_
  refine then_norm ?_
  refine wpIn_block ?_
  replace hL : Vg.Loc (keys ([[(sb, ob ([(vI s.w)] ++ (digC s.p ++ ([(Value.bool s.pr)] ++ (digC s.v ++ ([(Value.slice q nd cq), (Value.bool s.o)] ++ (digC s.ox ++ (digC s.ov))))))) 54)]] ++ ci)) w0 w5 ([[(sb, ob ([(vI s.w)] ++ (digC s.p ++ ([(Value.bool s.pr)] ++ (digC s.v ++ ([(Value.slice q nd cq), (Value.bool s.o)] ++ (digC s.ox ++ (digC s.ov))))))) 54)], [(bk1, ob [(Value.slice q nd cq)] 27)], [(b2, ob [(Value.slice pb1 nb1 cpb1)] 73)], cb1, [(b1, ob [(Value.func (Fn.yield l) #[] #[])] 100)]] ++ ci) := hL.front 4 rfl rfl
  replace hL : Vg.Loc (keys ([[(sb, ob ([(vI s.w)] ++ (digC s.p ++ ([(Value.bool s.pr)] ++ (digC s.v ++ ([(Value.slice q nd cq), (Value.bool s.o)] ++ (digC s.ox ++ (digC s.ov))))))) 54)]] ++ ci)) w0 w5 ([[(b1, ob [(Value.func (Fn.yield l) #[] #[])] 100)], [(sb, ob ([(vI s.w)] ++ (digC s.p ++ ([(Value.bool s.pr)] ++ (digC s.v ++ ([(Value.slice q nd cq), (Value.bool s.o)] ++ (digC s.ox ++ (digC s.ov))))))) 54)], [(bk1, ob [(Value.slice q nd cq)] 27)], [(b2, ob [(Value.slice pb1 nb1 cpb1)] 73)], cb1] ++ ci) := hL.front 4 rfl rfl
  replace hL : Vg.Loc (keys ([[(sb, ob ([(vI s.w)] ++ (digC s.p ++ ([(Value.bool s.pr)] ++ (digC s.v ++ ([(Value.slice q nd cq), (Value.bool s.o)] ++ (digC s.ox ++ (digC s.ov))))))) 54)]] ++ ci)) w0 w5 ([cb1, [(b1, ob [(Value.func (Fn.yield l) #[] #[])] 100)], [(sb, ob ([(vI s.w)] ++ (digC s.p ++ ([(Value.bool s.pr)] ++ (digC s.v ++ ([(Value.slice q nd cq), (Value.bool s.o)] ++ (digC s.ox ++ (digC s.ov))))))) 54)], [(bk1, ob [(Value.slice q nd cq)] 27)], [(b2, ob [(Value.slice pb1 nb1 cpb1)] 73)]] ++ ci) := hL.front 4 rfl rfl
  replace hL : Vg.Loc (keys ([[(sb, ob ([(vI s.w)] ++ (digC s.p ++ ([(Value.bool s.pr)] ++ (digC s.v ++ ([(Value.slice q nd cq), (Value.bool s.o)] ++ (digC s.ox ++ (digC s.ov))))))) 54)]] ++ ci)) w0 w5 ([[(b2, ob [(Value.slice pb1 nb1 cpb1)] 73)], cb1, [(b1, ob [(Value.func (Fn.yield l) #[] #[])] 100)], [(sb, ob ([(vI s.w)] ++ (digC s.p ++ ([(Value.bool s.pr)] ++ (digC s.v ++ ([(Value.slice q nd cq), (Value.bool s.o)] ++ (digC s.ox ++ (digC s.ov))))))) 54)], [(bk1, ob [(Value.slice q nd cq)] 27)]] ++ ci) := hL.front 4 rfl rfl
  replace hL : Vg.Loc (keys ([[(sb, ob ([(vI s.w)] ++ (digC s.p ++ ([(Value.bool s.pr)] ++ (digC s.v ++ ([(Value.slice q nd cq), (Value.bool s.o)] ++ (digC s.ox ++ (digC s.ov))))))) 54)]] ++ ci)) w0 w5 ([[(bk1, ob [(Value.slice q nd cq)] 27)], [(b2, ob [(Value.slice pb1 nb1 cpb1)] 73)], cb1, [(b1, ob [(Value.func (Fn.yield l) #[] #[])] 100)], [(sb, ob ([(vI s.w)] ++ (digC s.p ++ ([(Value.bool s.pr)] ++ (digC s.v ++ ([(Value.slice q nd cq), (Value.bool s.o)] ++ (digC s.ox ++ (digC s.ov))))))) 54)]] ++ ci) := hL.front 4 rfl rfl
  have hslc := hsl.loc hL (fun h0 ad hp hm => Nat.lt_irrefl _ (Nat.lt_of_lt_of_le (hqB h0 ad hp) (hBci _ hm)))
  refine c_range (co := [[(bk1, ob [(Value.slice q nd cq)] 27)]]) (cs := ([[(b2, ob [(Value.slice pb1 nb1 cpb1)] 73)], cb1, [(b1, ob [(Value.func (Fn.yield l) #[] #[])] 100)], [(sb, ob ([(vI s.w)] ++ (digC s.p ++ ([(Value.bool s.pr)] ++ (digC s.v ++ ([(Value.slice q nd cq), (Value.bool s.o)] ++ (digC s.ox ++ (digC s.ov))))))) 54)]] ++ ci)) (N := nd) (Ar := fun k _ _ vs => vs = [vI ((nd - 1 - k : Nat) : Int), dv (s.ds.getD (nd - 1 - k) Dig.zero)]) (lb := [(vp bk1 0)]) (B := B) hT hL (Loc.fromM hL hBci hBw0) (Nat.le_trans hBw0 hL.size) rfl (fun args w => Go.Proofs.YtcaffacganffjaaDoorW.PrintLast.enters_ Tryd.func60 rfl rfl args w) (fun w1 hx => Backward_iter s.ds q nd cq bk1 (by omega) B w1 (hslc.ext hx) hqB) (by rintro k c W vs rfl; rfl) (by decide) (fun k c => ∃ (pb : Option Addr) (nb cpb : Nat) (cb : Chunk) (C : List Chunk), OwnB 5 pb nb cpb (s.rb k) cb ∧ J k C ∧ c = [[(b2, ob [(Value.slice pb nb cpb)] 73)], cb, [(b1, ob [(Value.func (Fn.yield l) #[] #[])] 100)], [(sb, ob ([(vI s.w)] ++ (digC s.p ++ ([(Value.bool s.pr)] ++ (digC s.v ++ ([(Value.slice q nd cq), (Value.bool s.o)] ++ (digC s.ox ++ (digC s.ov))))))) 54)]] ++ C) (fun code c => code = Code.ret ∧ ∃ (o C : List Chunk), Jx C ∧ c = o ++ C) (⟨_, _, _, _, ci, hb1, hJ, rfl⟩) ?_ ?_ ?_
  · rintro l1 D1 ol1 od1 k c w6 a vs hk ⟨pb, nb, cpb, cb, C, hb, hJk, rfl⟩ rfl hT hLo hL
    replace hT : Tm 42 a [(14, (vI ((nd - 1 - k : Nat) : Int))), (15, (Value.agg (digC (s.ds.getD (nd - 1 - k) Dig.zero)).toArray)), (0, (Value.func (Fn.yield l) #[] #[])), (1, (vp sb 0)), (2, (vp b1 0)), (8, (Value.agg ([(vI s.w)] ++ (digC s.p ++ ([(Value.bool s.pr)] ++ (digC s.v ++ ([(Value.slice q nd cq), (Value.bool s.o)] ++ (digC s.ox ++ (digC s.ov))))))).toArray)), (9, (Value.slice pb1 nb1 cpb1)), (3, (vp b2 0)), (10, (vp sb 66)), (11, (vp sb 66)), (12, (Value.slice q nd cq)), (13, (Value.func (Fn.func 60) #[] #[(vp bk1 0)]))] := hT.keep [14, 15, 0, 1, 2, 8, 9, 3, 10, 11, 12, 13] rfl
    replace hL : Vg.Loc (keys (([[(b2, ob [(Value.slice pb nb cpb)] 73)], cb, [(b1, ob [(Value.func (Fn.yield l) #[] #[])] 100)], [(sb, ob ([(vI s.w)] ++ (digC s.p ++ ([(Value.bool s.pr)] ++ (digC s.v ++ ([(Value.slice q nd cq), (Value.bool s.o)] ++ (digC s.ox ++ (digC s.ov))))))) 54)]] ++ C) ++ [[(l1, ol1)], [(D1, od1)]])) w6 w6 ([[(b2, ob [(Value.slice pb nb cpb)] 73)], cb, [(b1, ob [(Value.func (Fn.yield l) #[] #[])] 100)], [(sb, ob ([(vI s.w)] ++ (digC s.p ++ ([(Value.bool s.pr)] ++ (digC s.v ++ ([(Value.slice q nd cq), (Value.bool s.o)] ++ (digC s.ox ++ (digC s.ov))))))) 54)]] ++ (C ++ [[(l1, ol1)], [(D1, od1)]])) := hL
    replace hLo : Vg.Loc (keys ([[(sb, ob ([(vI s.w)] ++ (digC s.p ++ ([(Value.bool s.pr)] ++ (digC s.v ++ ([(Value.slice q nd cq), (Value.bool s.o)] ++ (digC s.ox ++ (digC s.ov))))))) 54)]] ++ ci)) w0 w6 ([[(b2, ob [(Value.slice pb nb cpb)] 73)], cb, [(b1, ob [(Value.func (Fn.yield l) #[] #[])] 100)], [(sb, ob ([(vI s.w)] ++ (digC s.p ++ ([(Value.bool s.pr)] ++ (digC s.v ++ ([(Value.slice q nd cq), (Value.bool s.o)] ++ (digC s.ox ++ (digC s.ov))))))) 54)]] ++ (C ++ [[(l1, ol1)], [(D1, od1)]])) := hLo
    have hBr := Loc.fromM hLo hBci hBw0
    replace hK := KeysAt.of hK hLo (fun hm => by have := hBci _ hm; omega)
    refine c_seqI ?_
    refine c_regionI (WF.round l1) (noOut_then (noOut_then (fun ⟨_, _, h⟩ => h))) rfl ?_
    refine l_q hT (q_assign hT rfl) rfl rfl (by decide) ?_; clear hT; intro a hT
    refine l_end ?_
    refine then_norm ?_
    refine c_regionI (WF.round l1) (noOut_then (fun ⟨_, _, h⟩ => h)) rfl ?_
    refine l_do rfl ?_
    refine w_alloc hT hL (by decide) Tryd.ty24 ?_; clear hT hL; intro b3 a w7 hT hL hE hB
    refine l_do rfl ?_
    refine w_store hT hL 0 (c := digC Dig.zero) rfl rfl Tryd.ty24 rfl (vs := digC (s.ds.getD (nd - 1 - k) Dig.zero)) rfl rfl (by first | decide | (simp [arr32_len, arr8_len, digC_len]; done) | (simp [arr32_len, arr8_len, digC_len]; omega)) rfl (c' := digC (s.ds.getD (nd - 1 - k) Dig.zero)) rfl ?_; clear hL; intro w8 hL hE
    replace hL : Vg.Loc (keys (([[(b2, ob [(Value.slice pb nb cpb)] 73)], cb, [(b1, ob [(Value.func (Fn.yield l) #[] #[])] 100)], [(sb, ob ([(vI s.w)] ++ (digC s.p ++ ([(Value.bool s.pr)] ++ (digC s.v ++ ([(Value.slice q nd cq), (Value.bool s.o)] ++ (digC s.ox ++ (digC s.ov))))))) 54)]] ++ C) ++ [[(l1, ol1)], [(D1, od1)]])) w6 w8 ([[(b3, ob (digC (s.ds.getD (nd - 1 - k) Dig.zero)) 24)], [(b2, ob [(Value.slice pb nb cpb)] 73)], cb, [(b1, ob [(Value.func (Fn.yield l) #[] #[])] 100)], [(sb, ob ([(vI s.w)] ++ (digC s.p ++ ([(Value.bool s.pr)] ++ (digC s.v ++ ([(Value.slice q nd cq), (Value.bool s.o)] ++ (digC s.ox ++ (digC s.ov))))))) 54)]] ++ (C ++ [[(l1, ol1)], [(D1, od1)]])) := hL
    refine l_end ?_
    refine ⟨([[(b3, ob (digC (s.ds.getD (nd - 1 - k) Dig.zero)) 24)], [(b2, ob [(Value.slice pb nb cpb)] 73)], cb, [(b1, ob [(Value.func (Fn.yield l) #[] #[])] 100)], [(sb, ob ([(vI s.w)] ++ (digC s.p ++ ([(Value.bool s.pr)] ++ (digC s.v ++ ([(Value.slice q nd cq), (Value.bool s.o)] ++ (digC s.ox ++ (digC s.ov))))))) 54)]] ++ C), hL, fun ol2 w9 hL => ?_⟩
    replace hL : Vg.Loc (keys (([[(b2, ob [(Value.slice pb nb cpb)] 73)], cb, [(b1, ob [(Value.func (Fn.yield l) #[] #[])] 100)], [(sb, ob ([(vI s.w)] ++ (digC s.p ++ ([(Value.bool s.pr)] ++ (digC s.v ++ ([(Value.slice q nd cq), (Value.bool s.o)] ++ (digC s.ox ++ (digC s.ov))))))) 54)]] ++ C) ++ [[(l1, ol1)], [(D1, od1)]])) w6 w9 ([[(b3, ob (digC (s.ds.getD (nd - 1 - k) Dig.zero)) 24)], [(b2, ob [(Value.slice pb nb cpb)] 73)], cb, [(b1, ob [(Value.func (Fn.yield l) #[] #[])] 100)], [(sb, ob ([(vI s.w)] ++ (digC s.p ++ ([(Value.bool s.pr)] ++ (digC s.v ++ ([(Value.slice q nd cq), (Value.bool s.o)] ++ (digC s.ox ++ (digC s.ov))))))) 54)]] ++ (C ++ [[(l1, ol2)], [(D1, od1)]])) := hL
    refine wpIn_block ?_
    refine c_seqI ?_
    refine c_seqI ?_
    refine c_regionY ?_
    refine l_qI hT (WF.round l1) (q_load hT rfl Tryd.ty100 (hL.rd 3 rfl 0 (ds := [(Value.func (Fn.yield l) #[] #[])]) rfl)) rfl rfl (by decide) rfl ?_; clear hT; intro a hT
    refine l_qI hT (WF.round l1) (q_load hT rfl Tryd.ty73 (hL.rd 1 rfl 0 (ds := [(Value.slice pb nb cpb)]) rfl)) rfl rfl (by decide) rfl ?_; clear hT; intro a hT
    refine l_doI rfl (w_yield (xs := [.tmp 17]) (vs := [(Value.slice pb nb cpb)]) hT (WF.round l1) rfl rfl (by decide) (hy k _ _ _ (by omega) hJk (Loc.mid_of (own := [[(b3, ob (digC (s.ds.getD (nd - 1 - k) Dig.zero)) 24)], [(b2, ob [(Value.slice pb nb cpb)] 73)], cb, [(b1, ob [(Value.func (Fn.yield l) #[] #[])] 100)], [(sb, ob ([(vI s.w)] ++ (digC s.p ++ ([(Value.bool s.pr)] ++ (digC s.v ++ ([(Value.slice q nd cq), (Value.bool s.o)] ++ (digC s.ox ++ (digC s.ov))))))) 54)]]) (c := C) (bk := [[(l1, ol2)], [(D1, od1)]]) (Loc.call_all hLo hL)) ⟨_, _, _, rfl, OwnE.cap_le hb, OwnE.slb hb hL (i := 2) rfl, (OwnE.apart_mid (own := [[(b3, ob (digC (s.ds.getD (nd - 1 - k) Dig.zero)) 24)], [(b2, ob [(Value.slice pb nb cpb)] 73)], cb, [(b1, ob [(Value.func (Fn.yield l) #[] #[])] 100)], [(sb, ob ([(vI s.w)] ++ (digC s.p ++ ([(Value.bool s.pr)] ++ (digC s.v ++ ([(Value.slice q nd cq), (Value.bool s.o)] ++ (digC s.ox ++ (digC s.ov))))))) 54)]]) (C := C) (bk := [[(l1, ol2)], [(D1, od1)]]) hb hL 2 rfl)⟩) ?_)
    rintro e w10 (⟨rfl, cj1, hJ1, hX⟩ | ⟨rfl, cx1, hJx1, hX⟩)
    · refine ⟨_, rfl, ?_⟩; clear hT; intro a hT; replace hT : Tm 42 a ((18, (Value.bool true)) :: _) := hT
      replace hL : Vg.Loc (keys (([[(b2, ob [(Value.slice pb nb cpb)] 73)], cb, [(b1, ob [(Value.func (Fn.yield l) #[] #[])] 100)], [(sb, ob ([(vI s.w)] ++ (digC s.p ++ ([(Value.bool s.pr)] ++ (digC s.v ++ ([(Value.slice q nd cq), (Value.bool s.o)] ++ (digC s.ox ++ (digC s.ov))))))) 54)]] ++ C) ++ [[(l1, ol1)], [(D1, od1)]])) w6 w10 ([[(b3, ob (digC (s.ds.getD (nd - 1 - k) Dig.zero)) 24)], [(b2, ob [(Value.slice pb nb cpb)] 73)], cb, [(b1, ob [(Value.func (Fn.yield l) #[] #[])] 100)], [(sb, ob ([(vI s.w)] ++ (digC s.p ++ ([(Value.bool s.pr)] ++ (digC s.v ++ ([(Value.slice q nd cq), (Value.bool s.o)] ++ (digC s.ox ++ (digC s.ov))))))) 54)]] ++ (cj1 ++ [[(l1, ol2)], [(D1, od1)]])) := Loc.call_mid (own := [[(b3, ob (digC (s.ds.getD (nd - 1 - k) Dig.zero)) 24)], [(b2, ob [(Value.slice pb nb cpb)] 73)], cb, [(b1, ob [(Value.func (Fn.yield l) #[] #[])] 100)], [(sb, ob ([(vI s.w)] ++ (digC s.p ++ ([(Value.bool s.pr)] ++ (digC s.v ++ ([(Value.slice q nd cq), (Value.bool s.o)] ++ (digC s.ox ++ (digC s.ov))))))) 54)]]) hL hX
      refine l_qI hT (WF.round l1) ((q_not hT rfl).b rfl) rfl rfl (by decide) rfl ?_; clear hT; intro a hT
      refine l_endI ?_
      refine then_norm ?_
      refine c_falseI hT rfl rfl ?_
      refine wpIn_skip ?_
      refine then_norm ?_
      refine c_seqI ?_
      refine c_regionI (WF.round l1) (noOut_then (noOut_block noOut_round)) rfl ?_
      refine l_q hT (q_fieldAddr hT rfl Tryd.fld54_0 rfl) rfl rfl (by decide) ?_; clear hT; intro a hT
      refine l_q hT (q_load hT rfl Tryd.ty3 (hL.rd 4 rfl 0 (ds := [(vI s.w)]) rfl)) rfl rfl (by decide) ?_; clear hT; intro a hT
      refine l_q hT (q_load hT rfl Tryd.ty73 (hL.rd 1 rfl 0 (ds := [(Value.slice pb nb cpb)]) rfl)) rfl rfl (by decide) ?_; clear hT; intro a hT
      refine l_do rfl ?_
      refine w_callT (xs := [.tmp 22, .tmp 23]) hT rfl (vs := [(vI s.w), (Value.slice pb nb cpb)]) rfl (args := #[(vI s.w), (Value.slice pb nb cpb)]) rfl Tryd.func36 rfl rfl (by decide) ((SShort_spec s.w hw (s.rb k) _ _ _ (OwnE.cap_le hb) (by have := OwnE.len hb; have := s.rb_len k; omega) _ (KeysAt.of hK hL (fun hm => by have := hBr _ hm; omega)) (OwnE.slb hb hL (i := 2) rfl)).mono ?_)
      rintro e w11 ⟨rfl, hX⟩
      refine ⟨_, rfl, ?_⟩; clear hT; intro a hT; replace hT : Tm 42 a ((24, (Value.tuple #[(Value.agg (digC (shortD s.w (sha (s.rb k)))).toArray), (vI 0)])) :: _) := hT
      replace hL := hL.ext hX
      refine l_q hT (q_move hT rfl) rfl rfl (by decide) ?_; clear hT; intro a hT
      refine l_q hT (q_extract hT rfl rfl) rfl rfl (by decide) ?_; clear hT; intro a hT
      refine l_q hT (q_extract hT rfl rfl) rfl rfl (by decide) ?_; clear hT; intro a hT
      refine l_do rfl ?_
      refine w_alloc hT hL (by decide) Tryd.ty24 ?_; clear hT hL; intro b4 a w12 hT hL hE hB
      refine l_do rfl ?_
      refine w_store hT hL 0 (c := digC Dig.zero) rfl rfl Tryd.ty24 rfl (vs := digC (shortD s.w (sha (s.rb k)))) rfl rfl (by first | decide | (simp [arr32_len, arr8_len, digC_len]; done) | (simp [arr32_len, arr8_len, digC_len]; omega)) rfl (c' := digC (shortD s.w (sha (s.rb k)))) rfl ?_; clear hL; intro w13 hL hE
      replace hL : Vg.Loc (keys (([[(b2, ob [(Value.slice pb nb cpb)] 73)], cb, [(b1, ob [(Value.func (Fn.yield l) #[] #[])] 100)], [(sb, ob ([(vI s.w)] ++ (digC s.p ++ ([(Value.bool s.pr)] ++ (digC s.v ++ ([(Value.slice q nd cq), (Value.bool s.o)] ++ (digC s.ox ++ (digC s.ov))))))) 54)]] ++ C) ++ [[(l1, ol1)], [(D1, od1)]])) w6 w13 ([[(b4, ob (digC (shortD s.w (sha (s.rb k)))) 24)], [(b3, ob (digC (s.ds.getD (nd - 1 - k) Dig.zero)) 24)], [(b2, ob [(Value.slice pb nb cpb)] 73)], cb, [(b1, ob [(Value.func (Fn.yield l) #[] #[])] 100)], [(sb, ob ([(vI s.w)] ++ (digC s.p ++ ([(Value.bool s.pr)] ++ (digC s.v ++ ([(Value.slice q nd cq), (Value.bool s.o)] ++ (digC s.ox ++ (digC s.ov))))))) 54)]] ++ (cj1 ++ [[(l1, ol2)], [(D1, od1)]])) := hL
      refine l_q hT (q_assign hT rfl) rfl rfl (by decide) ?_; clear hT; intro a hT
      refine l_end ?_
      refine then_norm ?_
      refine c_seqI ?_
      refine c_regionI (WF.round l1) (noOut_then (noOut_block noOut_round)) rfl ?_
      refine l_q hT (q_fieldAddr hT rfl Tryd.fld54_1 rfl) rfl rfl (by decide) ?_; clear hT; intro a hT
      refine l_q hT (q_load_agg hT rfl Tryd.ty24 (hL.rd 5 rfl 1 (ds := digC s.p) rfl) rfl) rfl rfl (by decide) ?_; clear hT; intro a hT
      refine l_q hT (q_move hT rfl) rfl rfl (by decide) ?_; clear hT; intro a hT
      refine l_do rfl ?_
      refine w_callT (xs := [.tmp 28, .tmp 29]) hT rfl (vs := [(Value.agg (digC s.p).toArray), (vI ((nd - 1 - k : Nat) : Int))]) rfl (args := #[(Value.agg (digC s.p).toArray), (vI ((nd - 1 - k : Nat) : Int))]) rfl Tryd.func12 rfl rfl (by decide) ((pright_spec s.p (nd - 1 - k : Nat) (by omega) _).mono ?_)
      rintro e w14 ⟨rfl, hX⟩
      refine ⟨_, rfl, ?_⟩; clear hT; intro a hT; replace hT : Tm 42 a ((30, (Value.bool (s.p.bit (nd - 1 - k : Nat)))) :: _) := hT
      replace hL := hL.ext hX
      refine l_end ?_
      refine then_norm ?_
      refine c_ifI hT rfl (fun hc1 => ?_) (fun hc1 => ?_)
      · skip
        refine c_regionI (WF.round l1) (noOut_block noOut_round) rfl ?_
        refine l_q hT (q_load_agg hT rfl Tryd.ty24 (hL.rd 1 rfl 0 (ds := digC (s.ds.getD (nd - 1 - k) Dig.zero)) rfl) rfl) rfl rfl (by decide) ?_; clear hT; intro a hT
        refine l_q hT (q_load_agg hT rfl Tryd.ty24 (hL.rd 0 rfl 0 (ds := digC (shortD s.w (sha (s.rb k)))) rfl) rfl) rfl rfl (by decide) ?_; clear hT; intro a hT
        refine l_do rfl ?_
        refine w_buildSlice (e := 24) (ps := [(0, .tmp 31), (1, .tmp 32)]) (pv := [(0, (Value.agg (digC (s.ds.getD (nd - 1 - k) Dig.zero)).toArray)), (1, (Value.agg (digC (shortD s.w (sha (s.rb k)))).toArray))]) (c := digC (s.ds.getD (nd - 1 - k) Dig.zero) ++ (digC (shortD s.w (sha (s.rb k))))) hT hL (by decide) rfl (fun _ => by kernel_rfl) ?_; clear hT hL; intro b5 a w15 hT hL hE hB
        refine l_do rfl ?_
        refine w_callT (xs := [.const (.int .u8 1), .tmp 33]) hT rfl (vs := [(v8 1), (Value.slice (some ⟨b5, 0, none⟩) 2 2)]) rfl (args := #[(v8 1), (Value.slice (some ⟨b5, 0, none⟩) 2 2)]) rfl Tryd.func52 rfl rfl (by decide) ((pbytes_spec (1) [s.ds.getD (nd - 1 - k) Dig.zero, shortD s.w (sha (s.rb k))] (some ⟨b5, 0, none⟩) 2 2 (by decide) _ (SlT.flat (d0 := Dig.zero) digC_len (hL.rd 0 rfl 0 (ds := ([s.ds.getD (nd - 1 - k) Dig.zero, shortD s.w (sha (s.rb k))] : List Dig).flatMap digC) rfl))).mono ?_)
        rintro e w16 ⟨pb2, nb2, cpb2, cb2, rfl, hX, hb2⟩
        refine ⟨_, rfl, ?_⟩; clear hT; intro a hT; replace hT : Tm 42 a ((34, (Value.slice pb2 nb2 cpb2)) :: _) := hT
        replace hL : Vg.Loc (keys (([[(b2, ob [(Value.slice pb nb cpb)] 73)], cb, [(b1, ob [(Value.func (Fn.yield l) #[] #[])] 100)], [(sb, ob ([(vI s.w)] ++ (digC s.p ++ ([(Value.bool s.pr)] ++ (digC s.v ++ ([(Value.slice q nd cq), (Value.bool s.o)] ++ (digC s.ox ++ (digC s.ov))))))) 54)]] ++ C) ++ [[(l1, ol1)], [(D1, od1)]])) w6 w16 ([cb2, [(b5, ob (digC (s.ds.getD (nd - 1 - k) Dig.zero) ++ (digC (shortD s.w (sha (s.rb k))))) 24)], [(b4, ob (digC (shortD s.w (sha (s.rb k)))) 24)], [(b3, ob (digC (s.ds.getD (nd - 1 - k) Dig.zero)) 24)], [(b2, ob [(Value.slice pb nb cpb)] 73)], cb, [(b1, ob [(Value.func (Fn.yield l) #[] #[])] 100)], [(sb, ob ([(vI s.w)] ++ (digC s.p ++ ([(Value.bool s.pr)] ++ (digC s.v ++ ([(Value.slice q nd cq), (Value.bool s.o)] ++ (digC s.ox ++ (digC s.ov))))))) 54)]] ++ (cj1 ++ [[(l1, ol2)], [(D1, od1)]])) := hL.exts hX
        have hn_hb2 := hb2.len
        refine l_do rfl ?_
        refine w_store hT hL 4 (c := [(Value.slice pb nb cpb)]) rfl rfl Tryd.ty73 rfl (vs := [(Value.slice pb2 nb2 cpb2)]) rfl rfl (by first | decide | (simp [arr32_len, arr8_len, digC_len]; done) | (simp [arr32_len, arr8_len, digC_len]; omega)) rfl (c' := [(Value.slice pb2 nb2 cpb2)]) rfl ?_; clear hL; intro w17 hL hE
        replace hL : Vg.Loc (keys (([[(b2, ob [(Value.slice pb nb cpb)] 73)], cb, [(b1, ob [(Value.func (Fn.yield l) #[] #[])] 100)], [(sb, ob ([(vI s.w)] ++ (digC s.p ++ ([(Value.bool s.pr)] ++ (digC s.v ++ ([(Value.slice q nd cq), (Value.bool s.o)] ++ (digC s.ox ++ (digC s.ov))))))) 54)]] ++ C) ++ [[(l1, ol1)], [(D1, od1)]])) w6 w17 ([cb2, [(b5, ob (digC (s.ds.getD (nd - 1 - k) Dig.zero) ++ (digC (shortD s.w (sha (s.rb k))))) 24)], [(b4, ob (digC (shortD s.w (sha (s.rb k)))) 24)], [(b3, ob (digC (s.ds.getD (nd - 1 - k) Dig.zero)) 24)], [(b2, ob [(Value.slice pb2 nb2 cpb2)] 73)], cb, [(b1, ob [(Value.func (Fn.yield l) #[] #[])] 100)], [(sb, ob ([(vI s.w)] ++ (digC s.p ++ ([(Value.bool s.pr)] ++ (digC s.v ++ ([(Value.slice q nd cq), (Value.bool s.o)] ++ (digC s.ox ++ (digC s.ov))))))) 54)]] ++ (cj1 ++ [[(l1, ol2)], [(D1, od1)]])) := hL
        refine l_end ?_
        refine blk_norm ?_
        replace hL : Vg.Loc (keys (([[(b2, ob [(Value.slice pb nb cpb)] 73)], cb, [(b1, ob [(Value.func (Fn.yield l) #[] #[])] 100)], [(sb, ob ([(vI s.w)] ++ (digC s.p ++ ([(Value.bool s.pr)] ++ (digC s.v ++ ([(Value.slice q nd cq), (Value.bool s.o)] ++ (digC s.ox ++ (digC s.ov))))))) 54)]] ++ C) ++ [[(l1, ol1)], [(D1, od1)]])) w6 w17 ([[(sb, ob ([(vI s.w)] ++ (digC s.p ++ ([(Value.bool s.pr)] ++ (digC s.v ++ ([(Value.slice q nd cq), (Value.bool s.o)] ++ (digC s.ox ++ (digC s.ov))))))) 54)], cb2, [(b5, ob (digC (s.ds.getD (nd - 1 - k) Dig.zero) ++ (digC (shortD s.w (sha (s.rb k))))) 24)], [(b4, ob (digC (shortD s.w (sha (s.rb k)))) 24)], [(b3, ob (digC (s.ds.getD (nd - 1 - k) Dig.zero)) 24)], [(b2, ob [(Value.slice pb2 nb2 cpb2)] 73)], cb, [(b1, ob [(Value.func (Fn.yield l) #[] #[])] 100)]] ++ (cj1 ++ [[(l1, ol2)], [(D1, od1)]])) := hL.front 7 rfl rfl
        replace hL : Vg.Loc (keys (([[(b2, ob [(Value.slice pb nb cpb)] 73)], cb, [(b1, ob [(Value.func (Fn.yield l) #[] #[])] 100)], [(sb, ob ([(vI s.w)] ++ (digC s.p ++ ([(Value.bool s.pr)] ++ (digC s.v ++ ([(Value.slice q nd cq), (Value.bool s.o)] ++ (digC s.ox ++ (digC s.ov))))))) 54)]] ++ C) ++ [[(l1, ol1)], [(D1, od1)]])) w6 w17 ([[(b1, ob [(Value.func (Fn.yield l) #[] #[])] 100)], [(sb, ob ([(vI s.w)] ++ (digC s.p ++ ([(Value.bool s.pr)] ++ (digC s.v ++ ([(Value.slice q nd cq), (Value.bool s.o)] ++ (digC s.ox ++ (digC s.ov))))))) 54)], cb2, [(b5, ob (digC (s.ds.getD (nd - 1 - k) Dig.zero) ++ (digC (shortD s.w (sha (s.rb k))))) 24)], [(b4, ob (digC (shortD s.w (sha (s.rb k)))) 24)], [(b3, ob (digC (s.ds.getD (nd - 1 - k) Dig.zero)) 24)], [(b2, ob [(Value.slice pb2 nb2 cpb2)] 73)], cb] ++ (cj1 ++ [[(l1, ol2)], [(D1, od1)]])) := hL.front 7 rfl rfl
        replace hL : Vg.Loc (keys (([[(b2, ob [(Value.slice pb nb cpb)] 73)], cb, [(b1, ob [(Value.func (Fn.yield l) #[] #[])] 100)], [(sb, ob ([(vI s.w)] ++ (digC s.p ++ ([(Value.bool s.pr)] ++ (digC s.v ++ ([(Value.slice q nd cq), (Value.bool s.o)] ++ (digC s.ox ++ (digC s.ov))))))) 54)]] ++ C) ++ [[(l1, ol1)], [(D1, od1)]])) w6 w17 ([cb2, [(b1, ob [(Value.func (Fn.yield l) #[] #[])] 100)], [(sb, ob ([(vI s.w)] ++ (digC s.p ++ ([(Value.bool s.pr)] ++ (digC s.v ++ ([(Value.slice q nd cq), (Value.bool s.o)] ++ (digC s.ox ++ (digC s.ov))))))) 54)], [(b5, ob (digC (s.ds.getD (nd - 1 - k) Dig.zero) ++ (digC (shortD s.w (sha (s.rb k))))) 24)], [(b4, ob (digC (shortD s.w (sha (s.rb k)))) 24)], [(b3, ob (digC (s.ds.getD (nd - 1 - k) Dig.zero)) 24)], [(b2, ob [(Value.slice pb2 nb2 cpb2)] 73)], cb] ++ (cj1 ++ [[(l1, ol2)], [(D1, od1)]])) := hL.front 2 rfl rfl
        replace hL : Vg.Loc (keys (([[(b2, ob [(Value.slice pb nb cpb)] 73)], cb, [(b1, ob [(Value.func (Fn.yield l) #[] #[])] 100)], [(sb, ob ([(vI s.w)] ++ (digC s.p ++ ([(Value.bool s.pr)] ++ (digC s.v ++ ([(Value.slice q nd cq), (Value.bool s.o)] ++ (digC s.ox ++ (digC s.ov))))))) 54)]] ++ C) ++ [[(l1, ol1)], [(D1, od1)]])) w6 w17 ([[(b2, ob [(Value.slice pb2 nb2 cpb2)] 73)], cb2, [(b1, ob [(Value.func (Fn.yield l) #[] #[])] 100)], [(sb, ob ([(vI s.w)] ++ (digC s.p ++ ([(Value.bool s.pr)] ++ (digC s.v ++ ([(Value.slice q nd cq), (Value.bool s.o)] ++ (digC s.ox ++ (digC s.ov))))))) 54)], [(b5, ob (digC (s.ds.getD (nd - 1 - k) Dig.zero) ++ (digC (shortD s.w (sha (s.rb k))))) 24)], [(b4, ob (digC (shortD s.w (sha (s.rb k)))) 24)], [(b3, ob (digC (s.ds.getD (nd - 1 - k) Dig.zero)) 24)], cb] ++ (cj1 ++ [[(l1, ol2)], [(D1, od1)]])) := hL.front 6 rfl rfl
        replace hL : Vg.Loc (keys (([[(b2, ob [(Value.slice pb nb cpb)] 73)], cb, [(b1, ob [(Value.func (Fn.yield l) #[] #[])] 100)], [(sb, ob ([(vI s.w)] ++ (digC s.p ++ ([(Value.bool s.pr)] ++ (digC s.v ++ ([(Value.slice q nd cq), (Value.bool s.o)] ++ (digC s.ox ++ (digC s.ov))))))) 54)]] ++ C) ++ [[(l1, ol1)], [(D1, od1)]])) w6 w17 ([[(b2, ob [(Value.slice pb2 nb2 cpb2)] 73)], cb2, [(b1, ob [(Value.func (Fn.yield l) #[] #[])] 100)], [(sb, ob ([(vI s.w)] ++ (digC s.p ++ ([(Value.bool s.pr)] ++ (digC s.v ++ ([(Value.slice q nd cq), (Value.bool s.o)] ++ (digC s.ox ++ (digC s.ov))))))) 54)]] ++ (cj1 ++ [[(l1, ol2)], [(D1, od1)]])) := hL.sub (.cons_cons _ (.cons_cons _ (.cons_cons _ (.cons_cons _ (.cons _ (.cons _ (.cons _ (.cons _ (List.Sublist.refl _)))))))))
        have hrb := s.rb_succ k; rw [hnd, if_pos hc1] at hrb
        exact ⟨_, ⟨_, _, _, _, _, hrb ▸ hb2, hJ1, rfl⟩, hL⟩
      · skip
        refine c_regionI (WF.round l1) (noOut_block noOut_round) rfl ?_
        refine l_q hT (q_load_agg hT rfl Tryd.ty24 (hL.rd 0 rfl 0 (ds := digC (shortD s.w (sha (s.rb k)))) rfl) rfl) rfl rfl (by decide) ?_; clear hT; intro a hT
        refine l_q hT (q_load_agg hT rfl Tryd.ty24 (hL.rd 1 rfl 0 (ds := digC (s.ds.getD (nd - 1 - k) Dig.zero)) rfl) rfl) rfl rfl (by decide) ?_; clear hT; intro a hT
        refine l_do rfl ?_
        refine w_buildSlice (e := 24) (ps := [(0, .tmp 35), (1, .tmp 36)]) (pv := [(0, (Value.agg (digC (shortD s.w (sha (s.rb k)))).toArray)), (1, (Value.agg (digC (s.ds.getD (nd - 1 - k) Dig.zero)).toArray))]) (c := digC (shortD s.w (sha (s.rb k))) ++ (digC (s.ds.getD (nd - 1 - k) Dig.zero))) hT hL (by decide) rfl (fun _ => by kernel_rfl) ?_; clear hT hL; intro b6 a w18 hT hL hE hB
        refine l_do rfl ?_
        refine w_callT (xs := [.const (.int .u8 1), .tmp 37]) hT rfl (vs := [(v8 1), (Value.slice (some ⟨b6, 0, none⟩) 2 2)]) rfl (args := #[(v8 1), (Value.slice (some ⟨b6, 0, none⟩) 2 2)]) rfl Tryd.func52 rfl rfl (by decide) ((pbytes_spec (1) [shortD s.w (sha (s.rb k)), s.ds.getD (nd - 1 - k) Dig.zero] (some ⟨b6, 0, none⟩) 2 2 (by decide) _ (SlT.flat (d0 := Dig.zero) digC_len (hL.rd 0 rfl 0 (ds := ([shortD s.w (sha (s.rb k)), s.ds.getD (nd - 1 - k) Dig.zero] : List Dig).flatMap digC) rfl))).mono ?_)
        rintro e w19 ⟨pb3, nb3, cpb3, cb3, rfl, hX, hb3⟩
        refine ⟨_, rfl, ?_⟩; clear hT; intro a hT; replace hT : Tm 42 a ((38, (Value.slice pb3 nb3 cpb3)) :: _) := hT
        replace hL : Vg.Loc (keys (([[(b2, ob [(Value.slice pb nb cpb)] 73)], cb, [(b1, ob [(Value.func (Fn.yield l) #[] #[])] 100)], [(sb, ob ([(vI s.w)] ++ (digC s.p ++ ([(Value.bool s.pr)] ++ (digC s.v ++ ([(Value.slice q nd cq), (Value.bool s.o)] ++ (digC s.ox ++ (digC s.ov))))))) 54)]] ++ C) ++ [[(l1, ol1)], [(D1, od1)]])) w6 w19 ([cb3, [(b6, ob (digC (shortD s.w (sha (s.rb k))) ++ (digC (s.ds.getD (nd - 1 - k) Dig.zero))) 24)], [(b4, ob (digC (shortD s.w (sha (s.rb k)))) 24)], [(b3, ob (digC (s.ds.getD (nd - 1 - k) Dig.zero)) 24)], [(b2, ob [(Value.slice pb nb cpb)] 73)], cb, [(b1, ob [(Value.func (Fn.yield l) #[] #[])] 100)], [(sb, ob ([(vI s.w)] ++ (digC s.p ++ ([(Value.bool s.pr)] ++ (digC s.v ++ ([(Value.slice q nd cq), (Value.bool s.o)] ++ (digC s.ox ++ (digC s.ov))))))) 54)]] ++ (cj1 ++ [[(l1, ol2)], [(D1, od1)]])) := hL.exts hX
        have hn_hb3 := hb3.len
        refine l_do rfl ?_
        refine w_store hT hL 4 (c := [(Value.slice pb nb cpb)]) rfl rfl Tryd.ty73 rfl (vs := [(Value.slice pb3 nb3 cpb3)]) rfl rfl (by first | decide | (simp [arr32_len, arr8_len, digC_len]; done) | (simp [arr32_len, arr8_len, digC_len]; omega)) rfl (c' := [(Value.slice pb3 nb3 cpb3)]) rfl ?_; clear hL; intro w20 hL hE
        replace hL : Vg.Loc (keys (([[(b2, ob [(Value.slice pb nb cpb)] 73)], cb, [(b1, ob [(Value.func (Fn.yield l) #[] #[])] 100)], [(sb, ob ([(vI s.w)] ++ (digC s.p ++ ([(Value.bool s.pr)] ++ (digC s.v ++ ([(Value.slice q nd cq), (Value.bool s.o)] ++ (digC s.ox ++ (digC s.ov))))))) 54)]] ++ C) ++ [[(l1, ol1)], [(D1, od1)]])) w6 w20 ([cb3, [(b6, ob (digC (shortD s.w (sha (s.rb k))) ++ (digC (s.ds.getD (nd - 1 - k) Dig.zero))) 24)], [(b4, ob (digC (shortD s.w (sha (s.rb k)))) 24)], [(b3, ob (digC (s.ds.getD (nd - 1 - k) Dig.zero)) 24)], [(b2, ob [(Value.slice pb3 nb3 cpb3)] 73)], cb, [(b1, ob [(Value.func (Fn.yield l) #[] #[])] 100)], [(sb, ob ([(vI s.w)] ++ (digC s.p ++ ([(Value.bool s.pr)] ++ (digC s.v ++ ([(Value.slice q nd cq), (Value.bool s.o)] ++ (digC s.ox ++ (digC s.ov))))))) 54)]] ++ (cj1 ++ [[(l1, ol2)], [(D1, od1)]])) := hL
        refine l_end ?_
        refine blk_norm ?_
        replace hL : Vg.Loc (keys (([[(b2, ob [(Value.slice pb nb cpb)] 73)], cb, [(b1, ob [(Value.func (Fn.yield l) #[] #[])] 100)], [(sb, ob ([(vI s.w)] ++ (digC s.p ++ ([(Value.bool s.pr)] ++ (digC s.v ++ ([(Value.slice q nd cq), (Value.bool s.o)] ++ (digC s.ox ++ (digC s.ov))))))) 54)]] ++ C) ++ [[(l1, ol1)], [(D1, od1)]])) w6 w20 ([[(sb, ob ([(vI s.w)] ++ (digC s.p ++ ([(Value.bool s.pr)] ++ (digC s.v ++ ([(Value.slice q nd cq), (Value.bool s.o)] ++ (digC s.ox ++ (digC s.ov))))))) 54)], cb3, [(b6, ob (digC (shortD s.w (sha (s.rb k))) ++ (digC (s.ds.getD (nd - 1 - k) Dig.zero))) 24)], [(b4, ob (digC (shortD s.w (sha (s.rb k)))) 24)], [(b3, ob (digC (s.ds.getD (nd - 1 - k) Dig.zero)) 24)], [(b2, ob [(Value.slice pb3 nb3 cpb3)] 73)], cb, [(b1, ob [(Value.func (Fn.yield l) #[] #[])] 100)]] ++ (cj1 ++ [[(l1, ol2)], [(D1, od1)]])) := hL.front 7 rfl rfl
        replace hL : Vg.Loc (keys (([[(b2, ob [(Value.slice pb nb cpb)] 73)], cb, [(b1, ob [(Value.func (Fn.yield l) #[] #[])] 100)], [(sb, ob ([(vI s.w)] ++ (digC s.p ++ ([(Value.bool s.pr)] ++ (digC s.v ++ ([(Value.slice q nd cq), (Value.bool s.o)] ++ (digC s.ox ++ (digC s.ov))))))) 54)]] ++ C) ++ [[(l1, ol1)], [(D1, od1)]])) w6 w20 ([[(b1, ob [(Value.func (Fn.yield l) #[] #[])] 100)], [(sb, ob ([(vI s.w)] ++ (digC s.p ++ ([(Value.bool s.pr)] ++ (digC s.v ++ ([(Value.slice q nd cq), (Value.bool s.o)] ++ (digC s.ox ++ (digC s.ov))))))) 54)], cb3, [(b6, ob (digC (shortD s.w (sha (s.rb k))) ++ (digC (s.ds.getD (nd - 1 - k) Dig.zero))) 24)], [(b4, ob (digC (shortD s.w (sha (s.rb k)))) 24)], [(b3, ob (digC (s.ds.getD (nd - 1 - k) Dig.zero)) 24)], [(b2, ob [(Value.slice pb3 nb3 cpb3)] 73)], cb] ++ (cj1 ++ [[(l1, ol2)], [(D1, od1)]])) := hL.front 7 rfl rfl
        replace hL : Vg.Loc (keys (([[(b2, ob [(Value.slice pb nb cpb)] 73)], cb, [(b1, ob [(Value.func (Fn.yield l) #[] #[])] 100)], [(sb, ob ([(vI s.w)] ++ (digC s.p ++ ([(Value.bool s.pr)] ++ (digC s.v ++ ([(Value.slice q nd cq), (Value.bool s.o)] ++ (digC s.ox ++ (digC s.ov))))))) 54)]] ++ C) ++ [[(l1, ol1)], [(D1, od1)]])) w6 w20 ([cb3, [(b1, ob [(Value.func (Fn.yield l) #[] #[])] 100)], [(sb, ob ([(vI s.w)] ++ (digC s.p ++ ([(Value.bool s.pr)] ++ (digC s.v ++ ([(Value.slice q nd cq), (Value.bool s.o)] ++ (digC s.ox ++ (digC s.ov))))))) 54)], [(b6, ob (digC (shortD s.w (sha (s.rb k))) ++ (digC (s.ds.getD (nd - 1 - k) Dig.zero))) 24)], [(b4, ob (digC (shortD s.w (sha (s.rb k)))) 24)], [(b3, ob (digC (s.ds.getD (nd - 1 - k) Dig.zero)) 24)], [(b2, ob [(Value.slice pb3 nb3 cpb3)] 73)], cb] ++ (cj1 ++ [[(l1, ol2)], [(D1, od1)]])) := hL.front 2 rfl rfl
        replace hL : Vg.Loc (keys (([[(b2, ob [(Value.slice pb nb cpb)] 73)], cb, [(b1, ob [(Value.func (Fn.yield l) #[] #[])] 100)], [(sb, ob ([(vI s.w)] ++ (digC s.p ++ ([(Value.bool s.pr)] ++ (digC s.v ++ ([(Value.slice q nd cq), (Value.bool s.o)] ++ (digC s.ox ++ (digC s.ov))))))) 54)]] ++ C) ++ [[(l1, ol1)], [(D1, od1)]])) w6 w20 ([[(b2, ob [(Value.slice pb3 nb3 cpb3)] 73)], cb3, [(b1, ob [(Value.func (Fn.yield l) #[] #[])] 100)], [(sb, ob ([(vI s.w)] ++ (digC s.p ++ ([(Value.bool s.pr)] ++ (digC s.v ++ ([(Value.slice q nd cq), (Value.bool s.o)] ++ (digC s.ox ++ (digC s.ov))))))) 54)], [(b6, ob (digC (shortD s.w (sha (s.rb k))) ++ (digC (s.ds.getD (nd - 1 - k) Dig.zero))) 24)], [(b4, ob (digC (shortD s.w (sha (s.rb k)))) 24)], [(b3, ob (digC (s.ds.getD (nd - 1 - k) Dig.zero)) 24)], cb] ++ (cj1 ++ [[(l1, ol2)], [(D1, od1)]])) := hL.front 6 rfl rfl
        replace hL : Vg.Loc (keys (([[(b2, ob [(Value.slice pb nb cpb)] 73)], cb, [(b1, ob [(Value.func (Fn.yield l) #[] #[])] 100)], [(sb, ob ([(vI s.w)] ++ (digC s.p ++ ([(Value.bool s.pr)] ++ (digC s.v ++ ([(Value.slice q nd cq), (Value.bool s.o)] ++ (digC s.ox ++ (digC s.ov))))))) 54)]] ++ C) ++ [[(l1, ol1)], [(D1, od1)]])) w6 w20 ([[(b2, ob [(Value.slice pb3 nb3 cpb3)] 73)], cb3, [(b1, ob [(Value.func (Fn.yield l) #[] #[])] 100)], [(sb, ob ([(vI s.w)] ++ (digC s.p ++ ([(Value.bool s.pr)] ++ (digC s.v ++ ([(Value.slice q nd cq), (Value.bool s.o)] ++ (digC s.ox ++ (digC s.ov))))))) 54)]] ++ (cj1 ++ [[(l1, ol2)], [(D1, od1)]])) := hL.sub (.cons_cons _ (.cons_cons _ (.cons_cons _ (.cons_cons _ (.cons _ (.cons _ (.cons _ (.cons _ (List.Sublist.refl _)))))))))
        have hrb := s.rb_succ k; rw [hnd, if_neg (by rw [hc1]; decide)] at hrb
        exact ⟨_, ⟨_, _, _, _, _, hrb ▸ hb3, hJ1, rfl⟩, hL⟩
    · refine ⟨_, rfl, ?_⟩; clear hT; intro a hT; replace hT : Tm 42 a ((18, (Value.bool false)) :: _) := hT
      replace hL : Vg.Loc (keys (([[(b2, ob [(Value.slice pb nb cpb)] 73)], cb, [(b1, ob [(Value.func (Fn.yield l) #[] #[])] 100)], [(sb, ob ([(vI s.w)] ++ (digC s.p ++ ([(Value.bool s.pr)] ++ (digC s.v ++ ([(Value.slice q nd cq), (Value.bool s.o)] ++ (digC s.ox ++ (digC s.ov))))))) 54)]] ++ C) ++ [[(l1, ol1)], [(D1, od1)]])) w6 w10 ([[(b3, ob (digC (s.ds.getD (nd - 1 - k) Dig.zero)) 24)], [(b2, ob [(Value.slice pb nb cpb)] 73)], cb, [(b1, ob [(Value.func (Fn.yield l) #[] #[])] 100)], [(sb, ob ([(vI s.w)] ++ (digC s.p ++ ([(Value.bool s.pr)] ++ (digC s.v ++ ([(Value.slice q nd cq), (Value.bool s.o)] ++ (digC s.ox ++ (digC s.ov))))))) 54)]] ++ (cx1 ++ [[(l1, ol2)], [(D1, od1)]])) := Loc.call_mid (own := [[(b3, ob (digC (s.ds.getD (nd - 1 - k) Dig.zero)) 24)], [(b2, ob [(Value.slice pb nb cpb)] 73)], cb, [(b1, ob [(Value.func (Fn.yield l) #[] #[])] 100)], [(sb, ob ([(vI s.w)] ++ (digC s.p ++ ([(Value.bool s.pr)] ++ (digC s.v ++ ([(Value.slice q nd cq), (Value.bool s.o)] ++ (digC s.ox ++ (digC s.ov))))))) 54)]]) hL hX
      refine l_qI hT (WF.round l1) ((q_not hT rfl).b rfl) rfl rfl (by decide) rfl ?_; clear hT; intro a hT
      refine l_endI ?_
      refine then_norm ?_
      refine c_trueI hT rfl rfl ?_
      refine wpIn_ret ?_
      refine then_ret ?_
      refine blk_ret ?_
      exact ⟨[[(b3, ob (digC (s.ds.getD (nd - 1 - k) Dig.zero)) 24)], [(b2, ob [(Value.slice pb nb cpb)] 73)], cb, [(b1, ob [(Value.func (Fn.yield l) #[] #[])] 100)], [(sb, ob ([(vI s.w)] ++ (digC s.p ++ ([(Value.bool s.pr)] ++ (digC s.v ++ ([(Value.slice q nd cq), (Value.bool s.o)] ++ (digC s.ox ++ (digC s.ov))))))) 54)]] ++ cx1, ⟨rfl, [[(b3, ob (digC (s.ds.getD (nd - 1 - k) Dig.zero)) 24)], [(b2, ob [(Value.slice pb nb cpb)] 73)], cb, [(b1, ob [(Value.func (Fn.yield l) #[] #[])] 100)], [(sb, ob ([(vI s.w)] ++ (digC s.p ++ ([(Value.bool s.pr)] ++ (digC s.v ++ ([(Value.slice q nd cq), (Value.bool s.o)] ++ (digC s.ox ++ (digC s.ov))))))) 54)]], _, hJx1, rfl⟩, hL⟩
  · rintro D2 c w21 a ⟨pb, nb, cpb, cb, C, hb, hJk, rfl⟩ hT hL
    replace hT : Tm ⟨42, [{ target := Target.collected D2, args := #[] }]⟩ a [(0, (Value.func (Fn.yield l) #[] #[])), (1, (vp sb 0)), (2, (vp b1 0)), (8, (Value.agg ([(vI s.w)] ++ (digC s.p ++ ([(Value.bool s.pr)] ++ (digC s.v ++ ([(Value.slice q nd cq), (Value.bool s.o)] ++ (digC s.ox ++ (digC s.ov))))))).toArray)), (9, (Value.slice pb1 nb1 cpb1)), (3, (vp b2 0)), (10, (vp sb 66)), (11, (vp sb 66)), (12, (Value.slice q nd cq)), (13, (Value.func (Fn.func 60) #[] #[(vp bk1 0)]))] := hT.keep [0, 1, 2, 8, 9, 3, 10, 11, 12, 13] rfl
    replace hL : Vg.Loc (keys ([[(sb, ob ([(vI s.w)] ++ (digC s.p ++ ([(Value.bool s.pr)] ++ (digC s.v ++ ([(Value.slice q nd cq), (Value.bool s.o)] ++ (digC s.ox ++ (digC s.ov))))))) 54)]] ++ ci)) w0 w21 ([[(D2, Obj.deferred (some []))], [(b2, ob [(Value.slice pb nb cpb)] 73)], cb, [(b1, ob [(Value.func (Fn.yield l) #[] #[])] 100)], [(sb, ob ([(vI s.w)] ++ (digC s.p ++ ([(Value.bool s.pr)] ++ (digC s.v ++ ([(Value.slice q nd cq), (Value.bool s.o)] ++ (digC s.ox ++ (digC s.ov))))))) 54)]] ++ C) := hL
    refine blk_norm ?_
    refine then_norm ?_
    refine c_regionY ?_
    refine l_qI hT WF.wide (q_load hT rfl Tryd.ty100 (hL.rd 3 rfl 0 (ds := [(Value.func (Fn.yield l) #[] #[])]) rfl)) rfl rfl (Nat.le_of_ble_eq_true rfl) rfl ?_; clear hT; intro a hT
    refine l_qI hT WF.wide (q_load hT rfl Tryd.ty73 (hL.rd 1 rfl 0 (ds := [(Value.slice pb nb cpb)]) rfl)) rfl rfl (Nat.le_of_ble_eq_true rfl) rfl ?_; clear hT; intro a hT
    refine l_doI rfl (w_yield (xs := [.tmp 40]) (vs := [(Value.slice pb nb cpb)]) hT WF.wide rfl rfl (Nat.le_of_ble_eq_true rfl) (hy nd _ _ _ (by omega) hJk (Loc.tail_of (own := [[(D2, Obj.deferred (some []))], [(b2, ob [(Value.slice pb nb cpb)] 73)], cb, [(b1, ob [(Value.func (Fn.yield l) #[] #[])] 100)], [(sb, ob ([(vI s.w)] ++ (digC s.p ++ ([(Value.bool s.pr)] ++ (digC s.v ++ ([(Value.slice q nd cq), (Value.bool s.o)] ++ (digC s.ox ++ (digC s.ov))))))) 54)]]) (c := C) hL) ⟨_, _, _, rfl, OwnE.cap_le hb, OwnE.slb hb hL (i := 2) rfl, (OwnE.apart_tail (own := [[(D2, Obj.deferred (some []))], [(b2, ob [(Value.slice pb nb cpb)] 73)], cb, [(b1, ob [(Value.func (Fn.yield l) #[] #[])] 100)], [(sb, ob ([(vI s.w)] ++ (digC s.p ++ ([(Value.bool s.pr)] ++ (digC s.v ++ ([(Value.slice q nd cq), (Value.bool s.o)] ++ (digC s.ox ++ (digC s.ov))))))) 54)]]) (C := C) hb hL 2 rfl)⟩) ?_)
    rintro e w22 (⟨rfl, cj2, hJ2, hX⟩ | ⟨rfl, cx2, hJx2, hX⟩)
    · refine ⟨_, rfl, ?_⟩; clear hT; intro a hT; replace hT : Tm ⟨42, [{ target := Target.collected D2, args := #[] }]⟩ a ((41, (Value.bool true)) :: _) := hT
      replace hL : Vg.Loc (keys ([[(sb, ob ([(vI s.w)] ++ (digC s.p ++ ([(Value.bool s.pr)] ++ (digC s.v ++ ([(Value.slice q nd cq), (Value.bool s.o)] ++ (digC s.ox ++ (digC s.ov))))))) 54)]] ++ ci)) w0 w22 ([[(D2, Obj.deferred (some []))], [(b2, ob [(Value.slice pb nb cpb)] 73)], cb, [(b1, ob [(Value.func (Fn.yield l) #[] #[])] 100)], [(sb, ob ([(vI s.w)] ++ (digC s.p ++ ([(Value.bool s.pr)] ++ (digC s.v ++ ([(Value.slice q nd cq), (Value.bool s.o)] ++ (digC s.ox ++ (digC s.ov))))))) 54)]] ++ cj2) := Loc.call_tail (own := [[(D2, Obj.deferred (some []))], [(b2, ob [(Value.slice pb nb cpb)] 73)], cb, [(b1, ob [(Value.func (Fn.yield l) #[] #[])] 100)], [(sb, ob ([(vI s.w)] ++ (digC s.p ++ ([(Value.bool s.pr)] ++ (digC s.v ++ ([(Value.slice q nd cq), (Value.bool s.o)] ++ (digC s.ox ++ (digC s.ov))))))) 54)]]) hL hX
      refine l_endI ?_
      refine c_fall1 hT hL rfl (fun w23 hL => ?_)
      replace hL : Vg.Loc (keys ([[(sb, ob ([(vI s.w)] ++ (digC s.p ++ ([(Value.bool s.pr)] ++ (digC s.v ++ ([(Value.slice q nd cq), (Value.bool s.o)] ++ (digC s.ox ++ (digC s.ov))))))) 54)]] ++ ci)) w0 w23 ([[(b2, ob [(Value.slice pb nb cpb)] 73)], cb, [(b1, ob [(Value.func (Fn.yield l) #[] #[])] 100)], [(sb, ob ([(vI s.w)] ++ (digC s.p ++ ([(Value.bool s.pr)] ++ (digC s.v ++ ([(Value.slice q nd cq), (Value.bool s.o)] ++ (digC s.ox ++ (digC s.ov))))))) 54)]] ++ cj2) := hL
      refine leaves_end (vs := []) (rs := []) hT rfl .nil ?_
      exact ⟨⟨_, rfl⟩, .inl ⟨_, hJ2, Loc.tail_of (own := [[(b2, ob [(Value.slice pb nb cpb)] 73)], cb, [(b1, ob [(Value.func (Fn.yield l) #[] #[])] 100)], [(sb, ob ([(vI s.w)] ++ (digC s.p ++ ([(Value.bool s.pr)] ++ (digC s.v ++ ([(Value.slice q nd cq), (Value.bool s.o)] ++ (digC s.ox ++ (digC s.ov))))))) 54)]]) hL⟩⟩
    · refine ⟨_, rfl, ?_⟩; clear hT; intro a hT; replace hT : Tm ⟨42, [{ target := Target.collected D2, args := #[] }]⟩ a ((41, (Value.bool false)) :: _) := hT
      replace hL : Vg.Loc (keys ([[(sb, ob ([(vI s.w)] ++ (digC s.p ++ ([(Value.bool s.pr)] ++ (digC s.v ++ ([(Value.slice q nd cq), (Value.bool s.o)] ++ (digC s.ox ++ (digC s.ov))))))) 54)]] ++ ci)) w0 w22 ([[(D2, Obj.deferred (some []))], [(b2, ob [(Value.slice pb nb cpb)] 73)], cb, [(b1, ob [(Value.func (Fn.yield l) #[] #[])] 100)], [(sb, ob ([(vI s.w)] ++ (digC s.p ++ ([(Value.bool s.pr)] ++ (digC s.v ++ ([(Value.slice q nd cq), (Value.bool s.o)] ++ (digC s.ox ++ (digC s.ov))))))) 54)]] ++ cx2) := Loc.call_tail (own := [[(D2, Obj.deferred (some []))], [(b2, ob [(Value.slice pb nb cpb)] 73)], cb, [(b1, ob [(Value.func (Fn.yield l) #[] #[])] 100)], [(sb, ob ([(vI s.w)] ++ (digC s.p ++ ([(Value.bool s.pr)] ++ (digC s.v ++ ([(Value.slice q nd cq), (Value.bool s.o)] ++ (digC s.ox ++ (digC s.ov))))))) 54)]]) hL hX
      refine l_endI ?_
      refine c_fall1 hT hL rfl (fun w24 hL => ?_)
      replace hL : Vg.Loc (keys ([[(sb, ob ([(vI s.w)] ++ (digC s.p ++ ([(Value.bool s.pr)] ++ (digC s.v ++ ([(Value.slice q nd cq), (Value.bool s.o)] ++ (digC s.ox ++ (digC s.ov))))))) 54)]] ++ ci)) w0 w24 ([[(b2, ob [(Value.slice pb nb cpb)] 73)], cb, [(b1, ob [(Value.func (Fn.yield l) #[] #[])] 100)], [(sb, ob ([(vI s.w)] ++ (digC s.p ++ ([(Value.bool s.pr)] ++ (digC s.v ++ ([(Value.slice q nd cq), (Value.bool s.o)] ++ (digC s.ox ++ (digC s.ov))))))) 54)]] ++ cx2) := hL
      refine leaves_end (vs := []) (rs := []) hT rfl .nil ?_
      exact ⟨⟨_, rfl⟩, .inr ⟨_, hJx2, Loc.tail_of (own := [[(b2, ob [(Value.slice pb nb cpb)] 73)], cb, [(b1, ob [(Value.func (Fn.yield l) #[] #[])] 100)], [(sb, ob ([(vI s.w)] ++ (digC s.p ++ ([(Value.bool s.pr)] ++ (digC s.v ++ ([(Value.slice q nd cq), (Value.bool s.o)] ++ (digC s.ox ++ (digC s.ov))))))) 54)]]) hL⟩⟩
  · rintro D3 code c w25 a ⟨rfl, o, Cx, hJx, rfl⟩ hT hL
    replace hT : Tm ⟨42, [{ target := Target.collected D3, args := #[] }]⟩ a [(0, (Value.func (Fn.yield l) #[] #[])), (1, (vp sb 0)), (2, (vp b1 0)), (8, (Value.agg ([(vI s.w)] ++ (digC s.p ++ ([(Value.bool s.pr)] ++ (digC s.v ++ ([(Value.slice q nd cq), (Value.bool s.o)] ++ (digC s.ox ++ (digC s.ov))))))).toArray)), (9, (Value.slice pb1 nb1 cpb1)), (3, (vp b2 0)), (10, (vp sb 66)), (11, (vp sb 66)), (12, (Value.slice q nd cq)), (13, (Value.func (Fn.func 60) #[] #[(vp bk1 0)]))] := hT.keep [0, 1, 2, 8, 9, 3, 10, 11, 12, 13] rfl
    replace hL : Vg.Loc (keys ([[(sb, ob ([(vI s.w)] ++ (digC s.p ++ ([(Value.bool s.pr)] ++ (digC s.v ++ ([(Value.slice q nd cq), (Value.bool s.o)] ++ (digC s.ox ++ (digC s.ov))))))) 54)]] ++ ci)) w0 w25 ([[(D3, Obj.deferred (some []))]] ++ (o ++ Cx)) := hL
    refine wpIn_ret ?_
    refine blk_ret ?_
    refine then_ret ?_
    refine c_ret1 hT hL rfl (fun w26 hL => ?_)
    replace hL : Vg.Loc (keys ([[(sb, ob ([(vI s.w)] ++ (digC s.p ++ ([(Value.bool s.pr)] ++ (digC s.v ++ ([(Value.slice q nd cq), (Value.bool s.o)] ++ (digC s.ox ++ (digC s.ov))))))) 54)]] ++ ci)) w0 w26 ([] ++ (o ++ Cx)) := hL
    refine leaves_end (vs := []) (rs := []) hT rfl .nil ?_
    exact ⟨⟨_, rfl⟩, .inr ⟨_, hJx, Loc.tail_of (own := o) (c := Cx) hL⟩⟩
end Go.Proofs.YtcaffacganffjaaDoor
end

section
namespace Go.Proofs.YtcaffacganffjaaDoor
open Go Go.Vg


set_option maxRecDepth 20000 in
set_option maxHeartbeats 1000000 in
theorem check_form (s : Said) (q : Option Addr) (nd cq : Nat) (root : Dig) (hw : widthB s.w = true) (hnd : s.ds.length = nd) (hm : s.may = false) (w0 : World) :
    Calls Tryd.prog 22 #[(Value.agg ([(vI s.w)] ++ (digC s.p ++ ([(Value.bool s.pr)] ++ (digC s.v ++ ([(Value.slice q nd cq), (Value.bool s.o)] ++ (digC s.ox ++ (digC s.ov))))))).toArray), (Value.agg (digC root).toArray)] w0 fun e w' => e = .returned (vI 40) ∧ Ext w0 w' := by
  refine c_enterI (n := 33) (args := [(Value.agg ([(vI s.w)] ++ (digC s.p ++ ([(Value.bool s.pr)] ++ (digC s.v ++ ([(Value.slice q nd cq), (Value.bool s.o)] ++ (digC s.ox ++ (digC s.ov))))))).toArray), (Value.agg (digC root).toArray)]) Tryd.func22 rfl rfl (Nat.le_of_ble_eq_true rfl) rfl (fun a hT => ?_)
  simp only [List.zipIdx_cons, List.zipIdx_nil, List.map_cons, List.map_nil, Nat.reduceAdd] at hT
  refine with_outM (fun w h => by simp at h) (fun hOut => ?_)
  have hL := Vg.Loc.refl [] w0
  refine c_seqI ?_
  refine c_regionI WF.wide (noOut_then hOut) rfl ?_
  refine l_do rfl ?_
  refine w_box hT hL (by decide) rfl (c := [(vI s.w)] ++ (digC s.p ++ ([(Value.bool s.pr)] ++ (digC s.v ++ ([(Value.slice q nd cq), (Value.bool s.o)] ++ (digC s.ox ++ (digC s.ov))))))) rfl ?_; clear hT hL; intro b1 a w1 hT hL hE hB
  refine l_do rfl ?_
  refine w_box hT hL (by decide) rfl (c := digC root) rfl ?_; clear hT hL; intro b2 a w2 hT hL hE hB
  refine l_q hT (q_assign hT rfl) rfl rfl (by decide) ?_; clear hT; intro a hT
  refine l_end ?_
  refine then_norm ?_
  refine c_seqI ?_
  refine wpIn_block ?_
  refine c_seqI ?_
  refine c_regionI WF.wide (noOut_then (noOut_block (noOut_then hOut))) rfl ?_
  refine l_q hT (q_fieldAddr hT rfl Tryd.fld54_0 rfl) rfl rfl (by decide) ?_; clear hT; intro a hT
  refine l_q hT (q_load hT rfl Tryd.ty3 (hL.rd 1 rfl 0 (ds := [(vI s.w)]) rfl)) rfl rfl (by decide) ?_; clear hT; intro a hT
  refine l_q hT ((q_lss hT rfl rfl).b (c := decide (s.w < 0)) (b := false) (decide_eq_false (by simp [widthB] at hw; omega))) rfl rfl (by decide) ?_; clear hT; intro a hT
  refine l_q hT (q_move hT rfl) rfl rfl (by decide) ?_; clear hT; intro a hT
  refine l_on hT rfl rfl rfl rfl (w_q hT (q_fieldAddr hT rfl Tryd.fld54_0 rfl) rfl (by decide) ?_); clear hT; intro a hT
  refine l_on hT rfl rfl rfl rfl (w_q hT (q_load hT rfl Tryd.ty3 (hL.rd 1 rfl 0 (ds := [(vI s.w)]) rfl)) rfl (by decide) ?_); clear hT; intro a hT
  refine l_on hT rfl rfl rfl rfl (w_q hT ((q_gtr hT rfl rfl).b (c := decide (32 < s.w)) (b := false) (decide_eq_false (by simp [widthB] at hw; omega))) rfl (by decide) ?_); clear hT; intro a hT
  refine l_q hT ((q_pick hT rfl rfl rfl).v (v := (Value.bool false)) rfl) rfl rfl (by decide) ?_; clear hT; intro a hT
  refine l_q hT (q_assign hT rfl) rfl rfl (by decide) ?_; clear hT; intro a hT
  refine l_end ?_
  refine then_norm ?_
  refine c_falseI hT rfl rfl ?_
  refine c_seqI ?_
  refine c_regionI WF.wide (noOut_then (noOut_block (noOut_then hOut))) rfl ?_
  refine l_q hT (q_load_agg hT rfl Tryd.ty54 (hL.rd 1 rfl 0 (ds := [(vI s.w)] ++ (digC s.p ++ ([(Value.bool s.pr)] ++ (digC s.v ++ ([(Value.slice q nd cq), (Value.bool s.o)] ++ (digC s.ox ++ (digC s.ov))))))) rfl) rfl) rfl rfl (by decide) ?_; clear hT; intro a hT
  refine l_do rfl ?_
  refine w_callT (xs := [.tmp 17]) hT rfl (vs := [(Value.agg ([(vI s.w)] ++ (digC s.p ++ ([(Value.bool s.pr)] ++ (digC s.v ++ ([(Value.slice q nd cq), (Value.bool s.o)] ++ (digC s.ox ++ (digC s.ov))))))).toArray)]) rfl (args := #[(Value.agg ([(vI s.w)] ++ (digC s.p ++ ([(Value.bool s.pr)] ++ (digC s.v ++ ([(Value.slice q nd cq), (Value.bool s.o)] ++ (digC s.ox ++ (digC s.ov))))))).toArray)]) rfl Tryd.func34 rfl rfl (by decide) ((may_spec s q nd cq hnd _).mono ?_)
  rintro e w3 ⟨rfl, hX⟩
  refine ⟨_, rfl, ?_⟩; clear hT; intro a hT; replace hT : Tm 33 a ((18, (Value.bool s.may)) :: _) := hT
  replace hL := hL.ext hX
  rw [hm] at hT
  refine l_q hT ((q_not hT rfl).b rfl) rfl rfl (by decide) ?_; clear hT; intro a hT
  refine l_q hT (q_assign hT rfl) rfl rfl (by decide) ?_; clear hT; intro a hT
  refine l_end ?_
  refine then_norm ?_
  refine c_trueI hT rfl rfl ?_
  refine c_seqI ?_
  refine c_regionI WF.wide (noOut_then (noOut_block (noOut_then hOut))) rfl ?_
  refine l_q hT (q_assign hT rfl) rfl rfl (by decide) ?_; clear hT; intro a hT
  refine l_end ?_
  refine then_norm ?_
  refine wpIn_ret ?_
  refine blk_ret ?_
  refine then_ret ?_
  refine c_ret0 (vs := [(vI 40)]) (rs := [.tmp 4]) hT rfl (.tmp rfl .nil) ?_
  exact ⟨rfl, hL.drop⟩

set_option maxRecDepth 100000 in
set_option maxHeartbeats 4000000 in
theorem check_go (s : Said) (q : Option Addr) (nd cq : Nat) (root : Dig) (hw : widthB s.w = true) (hnd : s.ds.length = nd) (hn6 : nd ≤ 256) (hm : s.may = true) (w0 : World) (hK : KeysAt w0) (hsl : SlT w0 q nd 32 digC Dig.zero s.ds) :
    Calls Tryd.prog 22 #[(Value.agg ([(vI s.w)] ++ (digC s.p ++ ([(Value.bool s.pr)] ++ (digC s.v ++ ([(Value.slice q nd cq), (Value.bool s.o)] ++ (digC s.ox ++ (digC s.ov))))))).toArray), (Value.agg (digC root).toArray)] w0 fun e w' => e = .returned (vI (if s.top = root then 0 else 41)) ∧ Ext w0 w' := by
  refine c_enterI (n := 33) (args := [(Value.agg ([(vI s.w)] ++ (digC s.p ++ ([(Value.bool s.pr)] ++ (digC s.v ++ ([(Value.slice q nd cq), (Value.bool s.o)] ++ (digC s.ox ++ (digC s.ov))))))).toArray), (Value.agg (digC root).toArray)]) Tryd.func22 rfl rfl (Nat.le_of_ble_eq_true rfl) rfl (fun a hT => ?_)
  simp only [List.zipIdx_cons, List.zipIdx_nil, List.map_cons, List.map_nil, Nat.reduceAdd] at hT
  refine with_outM (fun w h => by simp at h) (fun hOut => ?_)
  have hL := Vg.Loc.refl [] w0
  have hKlt := hK.lt
  refine c_seqI ?_
  refine c_regionI WF.wide (noOut_then hOut) rfl ?_
  refine l_do rfl ?_
  refine w_box hT hL (by decide) rfl (c := [(vI s.w)] ++ (digC s.p ++ ([(Value.bool s.pr)] ++ (digC s.v ++ ([(Value.slice q nd cq), (Value.bool s.o)] ++ (digC s.ox ++ (digC s.ov))))))) rfl ?_; clear hT hL; intro b1 a w1 hT hL hE hB
  refine l_do rfl ?_
  refine w_box hT hL (by decide) rfl (c := digC root) rfl ?_; clear hT hL; intro b2 a w2 hT hL hE hB
  refine l_q hT (q_assign hT rfl) rfl rfl (by decide) ?_; clear hT; intro a hT
  refine l_end ?_
  refine then_norm ?_
  refine c_seqI ?_
  refine wpIn_block ?_
  refine c_seqI ?_
  refine c_regionI WF.wide (noOut_then (noOut_block (noOut_then hOut))) rfl ?_
  refine l_q hT (q_fieldAddr hT rfl Tryd.fld54_0 rfl) rfl rfl (by decide) ?_; clear hT; intro a hT
  refine l_q hT (q_load hT rfl Tryd.ty3 (hL.rd 1 rfl 0 (ds := [(vI s.w)]) rfl)) rfl rfl (by decide) ?_; clear hT; intro a hT
  refine l_q hT ((q_lss hT rfl rfl).b (c := decide (s.w < 0)) (b := false) (decide_eq_false (by simp [widthB] at hw; omega))) rfl rfl (by decide) ?_; clear hT; intro a hT
  refine l_q hT (q_move hT rfl) rfl rfl (by decide) ?_; clear hT; intro a hT
  refine l_on hT rfl rfl rfl rfl (w_q hT (q_fieldAddr hT rfl Tryd.fld54_0 rfl) rfl (by decide) ?_); clear hT; intro a hT
  refine l_on hT rfl rfl rfl rfl (w_q hT (q_load hT rfl Tryd.ty3 (hL.rd 1 rfl 0 (ds := [(vI s.w)]) rfl)) rfl (by decide) ?_); clear hT; intro a hT
  refine l_on hT rfl rfl rfl rfl (w_q hT ((q_gtr hT rfl rfl).b (c := decide (32 < s.w)) (b := false) (decide_eq_false (by simp [widthB] at hw; omega))) rfl (by decide) ?_); clear hT; intro a hT
  refine l_q hT ((q_pick hT rfl rfl rfl).v (v := (Value.bool false)) rfl) rfl rfl (by decide) ?_; clear hT; intro a hT
  refine l_q hT (q_assign hT rfl) rfl rfl (by decide) ?_; clear hT; intro a hT
  refine l_end ?_
  refine then_norm ?_
  refine c_falseI hT rfl rfl ?_
  refine c_seqI ?_
  refine c_regionI WF.wide (noOut_then (noOut_block (noOut_then hOut))) rfl ?_
  refine l_q hT (q_load_agg hT rfl Tryd.ty54 (hL.rd 1 rfl 0 (ds := [(vI s.w)] ++ (digC s.p ++ ([(Value.bool s.pr)] ++ (digC s.v ++ ([(Value.slice q nd cq), (Value.bool s.o)] ++ (digC s.ox ++ (digC s.ov))))))) rfl) rfl) rfl rfl (by decide) ?_; clear hT; intro a hT
  refine l_do rfl ?_
  refine w_callT (xs := [.tmp 17]) hT rfl (vs := [(Value.agg ([(vI s.w)] ++ (digC s.p ++ ([(Value.bool s.pr)] ++ (digC s.v ++ ([(Value.slice q nd cq), (Value.bool s.o)] ++ (digC s.ox ++ (digC s.ov))))))).toArray)]) rfl (args := #[(Value.agg ([(vI s.w)] ++ (digC s.p ++ ([(Value.bool s.pr)] ++ (digC s.v ++ ([(Value.slice q nd cq), (Value.bool s.o)] ++ (digC s.ox ++ (digC s.ov))))))).toArray)]) rfl Tryd.func34 rfl rfl (by decide) ((may_spec s q nd cq hnd _).mono ?_)
  rintro e w3 ⟨rfl, hX⟩
  refine ⟨_, rfl, ?_⟩; clear hT; intro a hT; replace hT : Tm 33 a ((18, (Value.bool s.may)) :: _) := hT
  replace hL := hL.ext hX
  rw [hm] at hT
  refine l_q hT ((q_not hT rfl).b rfl) rfl rfl (by decide) ?_; clear hT; intro a hT
  refine l_q hT (q_assign hT rfl) rfl rfl (by decide) ?_; clear hT; intro a hT
  refine l_end ?_
  refine then_norm ?_
  refine c_falseI hT rfl rfl ?_
  refine wpIn_skip ?_
  refine blk_norm ?_
  refine then_norm ?_
  refine c_seqI ?_
  refine c_regionI WF.wide (noOut_then hOut) rfl ?_
  refine l_do rfl ?_
  refine w_alloc hT hL (by decide) Tryd.ty24 ?_; clear hT hL; intro b3 a w4 hT hL hE hB
  refine l_end ?_
  refine then_norm ?_
  refine c_seqI ?_
  refine c_seqI ?_
  refine c_regionI WF.wide (noOut_then (noOut_then hOut)) rfl ?_
  refine l_q hT (q_load_agg hT rfl Tryd.ty54 (hL.rd 2 rfl 0 (ds := [(vI s.w)] ++ (digC s.p ++ ([(Value.bool s.pr)] ++ (digC s.v ++ ([(Value.slice q nd cq), (Value.bool s.o)] ++ (digC s.ox ++ (digC s.ov))))))) rfl) rfl) rfl rfl (by decide) ?_; clear hT; intro a hT
  refine l_do rfl ?_
  refine w_callT (xs := [.tmp 20]) hT rfl (vs := [(Value.agg ([(vI s.w)] ++ (digC s.p ++ ([(Value.bool s.pr)] ++ (digC s.v ++ ([(Value.slice q nd cq), (Value.bool s.o)] ++ (digC s.ox ++ (digC s.ov))))))).toArray)]) rfl (args := #[(Value.agg ([(vI s.w)] ++ (digC s.p ++ ([(Value.bool s.pr)] ++ (digC s.v ++ ([(Value.slice q nd cq), (Value.bool s.o)] ++ (digC s.ox ++ (digC s.ov))))))).toArray)]) rfl Tryd.func35 rfl rfl (by decide) ((rungs_spec s q nd cq _).mono ?_)
  rintro e w5 ⟨bs1, rfl, hX⟩
  refine ⟨_, rfl, ?_⟩; clear hT; intro a hT; replace hT : Tm 33 a ((21, (Value.func (Fn.func 49) #[] #[(vp bs1 0)])) :: _) := hT
  replace hL : Vg.Loc [] w0 w5 ([[(bs1, ob ([(vI s.w)] ++ (digC s.p ++ ([(Value.bool s.pr)] ++ (digC s.v ++ ([(Value.slice q nd cq), (Value.bool s.o)] ++ (digC s.ox ++ (digC s.ov))))))) 54)], [(b3, ob (digC Dig.zero) 24)], [(b2, ob (digC root) 24)], [(b1, ob ([(vI s.w)] ++ (digC s.p ++ ([(Value.bool s.pr)] ++ (digC s.v ++ ([(Value.slice q nd cq), (Value.bool s.o)] ++ (digC s.ox ++ (digC s.ov))))))) 54)]]) := hL.exts hX
  refine l_end ?_
  refine then_norm ?_
  refine wpIn_block ?_
  replace hL : Vg.Loc [] w0 w5 ([[(b2, ob (digC root) 24)], [(bs1, ob ([(vI s.w)] ++ (digC s.p ++ ([(Value.bool s.pr)] ++ (digC s.v ++ ([(Value.slice q nd cq), (Value.bool s.o)] ++ (digC s.ox ++ (digC s.ov))))))) 54)], [(b3, ob (digC Dig.zero) 24)], [(b1, ob ([(vI s.w)] ++ (digC s.p ++ ([(Value.bool s.pr)] ++ (digC s.v ++ ([(Value.slice q nd cq), (Value.bool s.o)] ++ (digC s.ox ++ (digC s.ov))))))) 54)]]) := hL.front 2 rfl rfl
  replace hL : Vg.Loc [] w0 w5 ([[(b1, ob ([(vI s.w)] ++ (digC s.p ++ ([(Value.bool s.pr)] ++ (digC s.v ++ ([(Value.slice q nd cq), (Value.bool s.o)] ++ (digC s.ox ++ (digC s.ov))))))) 54)], [(b2, ob (digC root) 24)], [(bs1, ob ([(vI s.w)] ++ (digC s.p ++ ([(Value.bool s.pr)] ++ (digC s.v ++ ([(Value.slice q nd cq), (Value.bool s.o)] ++ (digC s.ox ++ (digC s.ov))))))) 54)], [(b3, ob (digC Dig.zero) 24)]]) := hL.front 3 rfl rfl
  replace hL : Vg.Loc [] w0 w5 ([[(b3, ob (digC Dig.zero) 24)], [(b1, ob ([(vI s.w)] ++ (digC s.p ++ ([(Value.bool s.pr)] ++ (digC s.v ++ ([(Value.slice q nd cq), (Value.bool s.o)] ++ (digC s.ox ++ (digC s.ov))))))) 54)], [(b2, ob (digC root) 24)], [(bs1, ob ([(vI s.w)] ++ (digC s.p ++ ([(Value.bool s.pr)] ++ (digC s.v ++ ([(Value.slice q nd cq), (Value.bool s.o)] ++ (digC s.ox ++ (digC s.ov))))))) 54)]]) := hL.front 3 rfl rfl
  replace hL : Vg.Loc [] w0 w5 ([[(bs1, ob ([(vI s.w)] ++ (digC s.p ++ ([(Value.bool s.pr)] ++ (digC s.v ++ ([(Value.slice q nd cq), (Value.bool s.o)] ++ (digC s.ox ++ (digC s.ov))))))) 54)], [(b3, ob (digC Dig.zero) 24)], [(b1, ob ([(vI s.w)] ++ (digC s.p ++ ([(Value.bool s.pr)] ++ (digC s.v ++ ([(Value.slice q nd cq), (Value.bool s.o)] ++ (digC s.ox ++ (digC s.ov))))))) 54)], [(b2, ob (digC root) 24)]]) := hL.front 3 rfl rfl
  refine c_range (co := [[(bs1, ob ([(vI s.w)] ++ (digC s.p ++ ([(Value.bool s.pr)] ++ (digC s.v ++ ([(Value.slice q nd cq), (Value.bool s.o)] ++ (digC s.ox ++ (digC s.ov))))))) 54)]]) (cs := ([[(b3, ob (digC Dig.zero) 24)], [(b1, ob ([(vI s.w)] ++ (digC s.p ++ ([(Value.bool s.pr)] ++ (digC s.v ++ ([(Value.slice q nd cq), (Value.bool s.o)] ++ (digC s.ox ++ (digC s.ov))))))) 54)], [(b2, ob (digC root) 24)]])) (N := (nd + 1)) (Ar := fun k c W vs => ∃ (p : Option Addr) (n cap : Nat), vs = [.slice p n cap] ∧ n ≤ cap ∧ SlB W p n (s.rb k) ∧ (0 < n → ∀ ad : Addr, p = some ad → ad.block ∉ keys c)) (lb := [(vp bs1 0)]) (B := w0.heap.size) hT hL (Loc.from0 hL) (hL.size) rfl (fun args w => Go.Proofs.YtcaffacganffjaaDoorW.PrintLast.enters_ Tryd.func49 rfl rfl args w) (fun w1 hx => rungs_iter s q nd cq bs1 hw hnd hn6 w0.heap.size w1 (KeysAt.ext (KeysAt.of hK hL (by simp)) hx) hKlt (Nat.le_trans hL.size hx.size) ((hsl.ext hL).ext hx) hsl.lt) (by rintro k c W vs ⟨pa, na, ca, rfl, hcap, hslb, hnin⟩; rfl) (by decide) (fun k c => c = [[(b3, ob (digC (s.tp k)) 24)], [(b1, ob ([(vI s.w)] ++ (digC s.p ++ ([(Value.bool s.pr)] ++ (digC s.v ++ ([(Value.slice q nd cq), (Value.bool s.o)] ++ (digC s.ox ++ (digC s.ov))))))) 54)], [(b2, ob (digC root) 24)]]) (fun code c => False) (rfl) ?_ ?_ ?_
  · rintro l1 D1 ol1 od1 k c w6 a vs hk rfl ⟨pa, na, ca, rfl, hcap, hslb, hnin⟩ hT hLo hL
    replace hT : Tm 33 a [(22, (Value.slice pa na ca)), (0, (Value.agg ([(vI s.w)] ++ (digC s.p ++ ([(Value.bool s.pr)] ++ (digC s.v ++ ([(Value.slice q nd cq), (Value.bool s.o)] ++ (digC s.ox ++ (digC s.ov))))))).toArray)), (1, (Value.agg (digC root).toArray)), (2, (vp b1 0)), (3, (vp b2 0)), (4, (vI 0)), (8, (vp b1 0)), (9, (vI s.w)), (10, (Value.bool false)), (11, (Value.bool false)), (12, (vp b1 0)), (13, (vI s.w)), (14, (Value.bool false)), (15, (Value.bool false)), (7, (Value.bool false)), (17, (Value.agg ([(vI s.w)] ++ (digC s.p ++ ([(Value.bool s.pr)] ++ (digC s.v ++ ([(Value.slice q nd cq), (Value.bool s.o)] ++ (digC s.ox ++ (digC s.ov))))))).toArray)), (18, (Value.bool true)), (19, (Value.bool false)), (16, (Value.bool false)), (5, (vp b3 0)), (20, (Value.agg ([(vI s.w)] ++ (digC s.p ++ ([(Value.bool s.pr)] ++ (digC s.v ++ ([(Value.slice q nd cq), (Value.bool s.o)] ++ (digC s.ox ++ (digC s.ov))))))).toArray)), (21, (Value.func (Fn.func 49) #[] #[(vp bs1 0)]))] := hT.keep [22, 0, 1, 2, 3, 4, 8, 9, 10, 11, 12, 13, 14, 15, 7, 17, 18, 19, 16, 5, 20, 21] rfl
    replace hL : Vg.Loc (keys ([[(b3, ob (digC (s.tp k)) 24)], [(b1, ob ([(vI s.w)] ++ (digC s.p ++ ([(Value.bool s.pr)] ++ (digC s.v ++ ([(Value.slice q nd cq), (Value.bool s.o)] ++ (digC s.ox ++ (digC s.ov))))))) 54)], [(b2, ob (digC root) 24)]] ++ [[(l1, ol1)], [(D1, od1)]])) w6 w6 ([[(b3, ob (digC (s.tp k)) 24)], [(b1, ob ([(vI s.w)] ++ (digC s.p ++ ([(Value.bool s.pr)] ++ (digC s.v ++ ([(Value.slice q nd cq), (Value.bool s.o)] ++ (digC s.ox ++ (digC s.ov))))))) 54)], [(b2, ob (digC root) 24)], [(l1, ol1)], [(D1, od1)]]) := hL
    replace hLo : Vg.Loc [] w0 w6 ([[(b3, ob (digC (s.tp k)) 24)], [(b1, ob ([(vI s.w)] ++ (digC s.p ++ ([(Value.bool s.pr)] ++ (digC s.v ++ ([(Value.slice q nd cq), (Value.bool s.o)] ++ (digC s.ox ++ (digC s.ov))))))) 54)], [(b2, ob (digC root) 24)], [(l1, ol1)], [(D1, od1)]]) := hLo
    have hBr := Loc.from0 hLo
    replace hK := KeysAt.of hK hLo (by simp)
    refine c_regionI (WF.round l1) (noOut_then (fun ⟨_, _, h⟩ => h)) rfl ?_
    refine l_q hT (q_assign hT rfl) rfl rfl (by decide) ?_; clear hT; intro a hT
    refine l_end ?_
    refine ⟨[[(b3, ob (digC (s.tp k)) 24)], [(b1, ob ([(vI s.w)] ++ (digC s.p ++ ([(Value.bool s.pr)] ++ (digC s.v ++ ([(Value.slice q nd cq), (Value.bool s.o)] ++ (digC s.ox ++ (digC s.ov))))))) 54)], [(b2, ob (digC root) 24)]], hL, fun ol2 w7 hL => ?_⟩
    replace hL : Vg.Loc (keys ([[(b3, ob (digC (s.tp k)) 24)], [(b1, ob ([(vI s.w)] ++ (digC s.p ++ ([(Value.bool s.pr)] ++ (digC s.v ++ ([(Value.slice q nd cq), (Value.bool s.o)] ++ (digC s.ox ++ (digC s.ov))))))) 54)], [(b2, ob (digC root) 24)]] ++ [[(l1, ol1)], [(D1, od1)]])) w6 w7 ([[(b3, ob (digC (s.tp k)) 24)], [(b1, ob ([(vI s.w)] ++ (digC s.p ++ ([(Value.bool s.pr)] ++ (digC s.v ++ ([(Value.slice q nd cq), (Value.bool s.o)] ++ (digC s.ox ++ (digC s.ov))))))) 54)], [(b2, ob (digC root) 24)], [(l1, ol2)], [(D1, od1)]]) := hL
    refine wpIn_block ?_
    refine c_regionI (WF.round l1) (noOut_block noOut_round) rfl ?_
    refine l_q hT (q_fieldAddr hT rfl Tryd.fld54_0 rfl) rfl rfl (by decide) ?_; clear hT; intro a hT
    refine l_q hT (q_load hT rfl Tryd.ty3 (hL.rd 1 rfl 0 (ds := [(vI s.w)]) rfl)) rfl rfl (by decide) ?_; clear hT; intro a hT
    refine l_q hT (q_move hT rfl) rfl rfl (by decide) ?_; clear hT; intro a hT
    refine l_do rfl ?_
    refine w_callT (xs := [.tmp 25, .tmp 26]) hT rfl (vs := [(vI s.w), (Value.slice pa na ca)]) rfl (args := #[(vI s.w), (Value.slice pa na ca)]) rfl Tryd.func36 rfl rfl (by decide) ((SShort_spec s.w hw (s.rb k) pa na ca hcap (by have := hslb.1; have := s.rb_len k; omega) _ (KeysAt.of hK hL (fun hm => by have := hBr _ hm; omega)) (hslb.loc hL hnin)).mono ?_)
    rintro e w8 ⟨rfl, hX⟩
    refine ⟨_, rfl, ?_⟩; clear hT; intro a hT; replace hT : Tm 33 a ((27, (Value.tuple #[(Value.agg (digC (shortD s.w (sha (s.rb k)))).toArray), (vI 0)])) :: _) := hT
    replace hL := hL.ext hX
    refine l_q hT (q_move hT rfl) rfl rfl (by decide) ?_; clear hT; intro a hT
    refine l_q hT (q_extract hT rfl rfl) rfl rfl (by decide) ?_; clear hT; intro a hT
    refine l_q hT (q_extract hT rfl rfl) rfl rfl (by decide) ?_; clear hT; intro a hT
    refine l_do rfl ?_
    refine w_store hT hL 0 (c := digC (s.tp k)) rfl rfl Tryd.ty24 rfl (vs := digC (shortD s.w (sha (s.rb k)))) rfl rfl (by first | decide | (simp [arr32_len, arr8_len, digC_len]; done) | (simp [arr32_len, arr8_len, digC_len]; omega)) rfl (c' := digC (shortD s.w (sha (s.rb k)))) rfl ?_; clear hL; intro w9 hL hE
    replace hL : Vg.Loc (keys ([[(b3, ob (digC (s.tp k)) 24)], [(b1, ob ([(vI s.w)] ++ (digC s.p ++ ([(Value.bool s.pr)] ++ (digC s.v ++ ([(Value.slice q nd cq), (Value.bool s.o)] ++ (digC s.ox ++ (digC s.ov))))))) 54)], [(b2, ob (digC root) 24)]] ++ [[(l1, ol1)], [(D1, od1)]])) w6 w9 ([[(b3, ob (digC (shortD s.w (sha (s.rb k)))) 24)], [(b1, ob ([(vI s.w)] ++ (digC s.p ++ ([(Value.bool s.pr)] ++ (digC s.v ++ ([(Value.slice q nd cq), (Value.bool s.o)] ++ (digC s.ox ++ (digC s.ov))))))) 54)], [(b2, ob (digC root) 24)], [(l1, ol2)], [(D1, od1)]]) := hL
    refine l_end ?_
    refine blk_norm ?_
    replace hL : Vg.Loc (keys ([[(b3, ob (digC (s.tp k)) 24)], [(b1, ob ([(vI s.w)] ++ (digC s.p ++ ([(Value.bool s.pr)] ++ (digC s.v ++ ([(Value.slice q nd cq), (Value.bool s.o)] ++ (digC s.ox ++ (digC s.ov))))))) 54)], [(b2, ob (digC root) 24)]] ++ [[(l1, ol1)], [(D1, od1)]])) w6 w9 ([[(D1, od1)], [(b3, ob (digC (shortD s.w (sha (s.rb k)))) 24)], [(b1, ob ([(vI s.w)] ++ (digC s.p ++ ([(Value.bool s.pr)] ++ (digC s.v ++ ([(Value.slice q nd cq), (Value.bool s.o)] ++ (digC s.ox ++ (digC s.ov))))))) 54)], [(b2, ob (digC root) 24)], [(l1, ol2)]]) := hL.front 4 rfl rfl
    replace hL : Vg.Loc (keys ([[(b3, ob (digC (s.tp k)) 24)], [(b1, ob ([(vI s.w)] ++ (digC s.p ++ ([(Value.bool s.pr)] ++ (digC s.v ++ ([(Value.slice q nd cq), (Value.bool s.o)] ++ (digC s.ox ++ (digC s.ov))))))) 54)], [(b2, ob (digC root) 24)]] ++ [[(l1, ol1)], [(D1, od1)]])) w6 w9 ([[(l1, ol2)], [(D1, od1)], [(b3, ob (digC (shortD s.w (sha (s.rb k)))) 24)], [(b1, ob ([(vI s.w)] ++ (digC s.p ++ ([(Value.bool s.pr)] ++ (digC s.v ++ ([(Value.slice q nd cq), (Value.bool s.o)] ++ (digC s.ox ++ (digC s.ov))))))) 54)], [(b2, ob (digC root) 24)]]) := hL.front 4 rfl rfl
    replace hL : Vg.Loc (keys ([[(b3, ob (digC (s.tp k)) 24)], [(b1, ob ([(vI s.w)] ++ (digC s.p ++ ([(Value.bool s.pr)] ++ (digC s.v ++ ([(Value.slice q nd cq), (Value.bool s.o)] ++ (digC s.ox ++ (digC s.ov))))))) 54)], [(b2, ob (digC root) 24)]] ++ [[(l1, ol1)], [(D1, od1)]])) w6 w9 ([[(b2, ob (digC root) 24)], [(l1, ol2)], [(D1, od1)], [(b3, ob (digC (shortD s.w (sha (s.rb k)))) 24)], [(b1, ob ([(vI s.w)] ++ (digC s.p ++ ([(Value.bool s.pr)] ++ (digC s.v ++ ([(Value.slice q nd cq), (Value.bool s.o)] ++ (digC s.ox ++ (digC s.ov))))))) 54)]]) := hL.front 4 rfl rfl
    replace hL : Vg.Loc (keys ([[(b3, ob (digC (s.tp k)) 24)], [(b1, ob ([(vI s.w)] ++ (digC s.p ++ ([(Value.bool s.pr)] ++ (digC s.v ++ ([(Value.slice q nd cq), (Value.bool s.o)] ++ (digC s.ox ++ (digC s.ov))))))) 54)], [(b2, ob (digC root) 24)]] ++ [[(l1, ol1)], [(D1, od1)]])) w6 w9 ([[(b1, ob ([(vI s.w)] ++ (digC s.p ++ ([(Value.bool s.pr)] ++ (digC s.v ++ ([(Value.slice q nd cq), (Value.bool s.o)] ++ (digC s.ox ++ (digC s.ov))))))) 54)], [(b2, ob (digC root) 24)], [(l1, ol2)], [(D1, od1)], [(b3, ob (digC (shortD s.w (sha (s.rb k)))) 24)]]) := hL.front 4 rfl rfl
    replace hL : Vg.Loc (keys ([[(b3, ob (digC (s.tp k)) 24)], [(b1, ob ([(vI s.w)] ++ (digC s.p ++ ([(Value.bool s.pr)] ++ (digC s.v ++ ([(Value.slice q nd cq), (Value.bool s.o)] ++ (digC s.ox ++ (digC s.ov))))))) 54)], [(b2, ob (digC root) 24)]] ++ [[(l1, ol1)], [(D1, od1)]])) w6 w9 ([[(b3, ob (digC (shortD s.w (sha (s.rb k)))) 24)], [(b1, ob ([(vI s.w)] ++ (digC s.p ++ ([(Value.bool s.pr)] ++ (digC s.v ++ ([(Value.slice q nd cq), (Value.bool s.o)] ++ (digC s.ox ++ (digC s.ov))))))) 54)], [(b2, ob (digC root) 24)], [(l1, ol2)], [(D1, od1)]]) := hL.front 4 rfl rfl
    exact ⟨_, rfl, hL⟩
  · rintro D2 c w10 a rfl hT hL
    replace hT : Tm ⟨33, [{ target := Target.collected D2, args := #[] }]⟩ a [(0, (Value.agg ([(vI s.w)] ++ (digC s.p ++ ([(Value.bool s.pr)] ++ (digC s.v ++ ([(Value.slice q nd cq), (Value.bool s.o)] ++ (digC s.ox ++ (digC s.ov))))))).toArray)), (1, (Value.agg (digC root).toArray)), (2, (vp b1 0)), (3, (vp b2 0)), (4, (vI 0)), (8, (vp b1 0)), (9, (vI s.w)), (10, (Value.bool false)), (11, (Value.bool false)), (12, (vp b1 0)), (13, (vI s.w)), (14, (Value.bool false)), (15, (Value.bool false)), (7, (Value.bool false)), (17, (Value.agg ([(vI s.w)] ++ (digC s.p ++ ([(Value.bool s.pr)] ++ (digC s.v ++ ([(Value.slice q nd cq), (Value.bool s.o)] ++ (digC s.ox ++ (digC s.ov))))))).toArray)), (18, (Value.bool true)), (19, (Value.bool false)), (16, (Value.bool false)), (5, (vp b3 0)), (20, (Value.agg ([(vI s.w)] ++ (digC s.p ++ ([(Value.bool s.pr)] ++ (digC s.v ++ ([(Value.slice q nd cq), (Value.bool s.o)] ++ (digC s.ox ++ (digC s.ov))))))).toArray)), (21, (Value.func (Fn.func 49) #[] #[(vp bs1 0)]))] := hT.keep [0, 1, 2, 3, 4, 8, 9, 10, 11, 12, 13, 14, 15, 7, 17, 18, 19, 16, 5, 20, 21] rfl
    replace hL : Vg.Loc [] w0 w10 ([[(D2, Obj.deferred (some []))], [(b3, ob (digC (s.tp (nd + 1))) 24)], [(b1, ob ([(vI s.w)] ++ (digC s.p ++ ([(Value.bool s.pr)] ++ (digC s.v ++ ([(Value.slice q nd cq), (Value.bool s.o)] ++ (digC s.ox ++ (digC s.ov))))))) 54)], [(b2, ob (digC root) 24)]]) := hL
    refine blk_norm ?_
    refine then_norm ?_
    refine c_seqI ?_
    refine c_seqI ?_
    refine c_regionI WF.wide (noOut_then (noOut_then hOut)) rfl ?_
    refine l_q hT (q_load_agg hT rfl Tryd.ty24 (hL.rd 1 rfl 0 (ds := digC (s.tp (nd + 1))) rfl) rfl) rfl rfl (Nat.le_of_ble_eq_true rfl) ?_; clear hT; intro a hT
    refine l_q hT (q_load_agg hT rfl Tryd.ty24 (hL.rd 3 rfl 0 (ds := digC root) rfl) rfl) rfl rfl (Nat.le_of_ble_eq_true rfl) ?_; clear hT; intro a hT
    refine l_q hT (q_ne_agg hT rfl rfl Tryd.eqg24 (EqR.dig Tryd.arr24 Tryd.underlying5 (s.tp (nd + 1)) root) (Nat.le_of_ble_eq_true rfl)) rfl rfl (Nat.le_of_ble_eq_true rfl) ?_; clear hT; intro a hT
    refine l_end ?_
    refine then_norm ?_
    refine c_ifI hT rfl (fun hc1 => ?_) (fun hc1 => ?_)
    · skip
      simp only [Bool.not_eq_true', Bool.not_eq_false'] at hc1
      have hc1 := of_decide_eq_false hc1
      refine c_seqI ?_
      refine c_regionI WF.wide (noOut_then (noOut_then hOut)) rfl ?_
      refine l_q hT (q_assign hT rfl) rfl rfl (Nat.le_of_ble_eq_true rfl) ?_; clear hT; intro a hT
      refine l_end ?_
      refine then_norm ?_
      refine wpIn_ret ?_
      refine then_ret ?_
      refine c_ret1 hT hL rfl (fun w11 hL => ?_)
      replace hL : Vg.Loc [] w0 w11 ([[(b3, ob (digC (s.tp (nd + 1))) 24)], [(b1, ob ([(vI s.w)] ++ (digC s.p ++ ([(Value.bool s.pr)] ++ (digC s.v ++ ([(Value.slice q nd cq), (Value.bool s.o)] ++ (digC s.ox ++ (digC s.ov))))))) 54)], [(b2, ob (digC root) 24)]]) := hL
      refine leaves_end (vs := [(vI 41)]) (rs := [.tmp 4]) hT rfl (.tmp rfl .nil) ?_
      have ht : s.tp (nd + 1) = s.top := by rw [← hnd]; rfl
      rw [ht] at hc1; exact ⟨by simp [packed, hc1], hL.drop⟩
    · skip
      simp only [Bool.not_eq_true', Bool.not_eq_false'] at hc1
      have hc1 := of_decide_eq_true hc1
      refine wpIn_skip ?_
      refine then_norm ?_
      refine c_seqI ?_
      refine c_regionI WF.wide (noOut_then hOut) rfl ?_
      refine l_q hT (q_assign hT rfl) rfl rfl (Nat.le_of_ble_eq_true rfl) ?_; clear hT; intro a hT
      refine l_end ?_
      refine then_norm ?_
      refine wpIn_ret ?_
      refine c_ret1 hT hL rfl (fun w12 hL => ?_)
      replace hL : Vg.Loc [] w0 w12 ([[(b3, ob (digC (s.tp (nd + 1))) 24)], [(b1, ob ([(vI s.w)] ++ (digC s.p ++ ([(Value.bool s.pr)] ++ (digC s.v ++ ([(Value.slice q nd cq), (Value.bool s.o)] ++ (digC s.ox ++ (digC s.ov))))))) 54)], [(b2, ob (digC root) 24)]]) := hL
      refine leaves_end (vs := [(vI 0)]) (rs := [.tmp 4]) hT rfl (.tmp rfl .nil) ?_
      have ht : s.tp (nd + 1) = s.top := by rw [← hnd]; rfl
      rw [ht] at hc1; exact ⟨by simp [packed, hc1], hL.drop⟩
  · rintro D3 code c w13 a h _ _; exact h.elim
end Go.Proofs.YtcaffacganffjaaDoor
end

section
namespace Go.Vg
open Go
theorem go_len (w : Int) (p : Dig) : ∀ (k : Nat) (S : List Leaf) (n : Nat), k + n = 257 → n ≤ 256 → GoodL S n → (goL w p k S n).1.length + n ≤ 256 ∧ (goL w p k S n).2.length ≤ 1
  | 0, S, n, h, hn, _ => by omega
  | k + 1, S, n, h, hn, hg => by
    by_cases hs : S.length ≤ 1
    · rw [goL_end hs]; exact ⟨by simpa using hn, hs⟩
    · have h2 := hg.lt (by omega)
      rw [goL_step (by omega)]
      have ih := go_len w p k (sameL p S n) (n + 1) (by omega) (by omega) (hg.same p)
      simp only [List.length_cons]
      omega
theorem go_mem (w : Int) (p : Dig) : ∀ (k : Nat) (S : List Leaf) (n : Nat) (x : Leaf), (∀ y ∈ S, along y.p p n) → x ∈ (goL w p k S n).2 → x ∈ S ∧ along x.p p (n + (goL w p k S n).1.length)
  | 0, S, n, x, ha, hx => ⟨hx, by simpa [goL] using ha x hx⟩
  | k + 1, S, n, x, ha, hx => by
    by_cases hs : S.length ≤ 1
    · rw [goL_end hs] at hx ⊢
      exact ⟨hx, by simpa using ha x hx⟩
    · rw [goL_step (by omega)] at hx ⊢
      have hs2 : ∀ y ∈ sameL p S n, along y.p p (n + 1) := by
        intro y hy i hi
        unfold sameL at hy
        rw [List.mem_filter] at hy
        rcases Nat.lt_or_ge i n with q | q
        · exact ha y hy.1 i q
        · obtain rfl : i = n := by omega
          exact eq_of_beq hy.2
      obtain ⟨h1, h2⟩ := go_mem w p k (sameL p S n) (n + 1) x hs2 hx
      refine ⟨(List.mem_filter.1 h1).1, ?_⟩
      simp only [List.length_cons]
      rw [show n + ((goL w p k (sameL p S n) (n + 1)).1.length + 1) = n + 1 + (goL w p k (sameL p S n) (n + 1)).1.length from by omega]
      exact h2
theorem along_common {a b : Dig} {m : Nat} (h : along a b m) (hm : m ≤ 256) : m ≤ common b a := by
  have hc := common_is b a
  rcases Nat.lt_or_ge (common b a) m with q | q
  · exact absurd (h _ q).symm (hc.ne (by omega))
  · exact q
def madeS (w : Int) (ls : List Leaf) (p : Dig) : Said := ⟨w, p, (saysL p (goL w p 257 ls 0).2).1, (saysL p (goL w p 257 ls 0).2).2.1, (goL w p 257 ls 0).1, (saysL p (goL w p 257 ls 0).2).2.2.1, (saysL p (goL w p 257 ls 0).2).2.2.2.1, (saysL p (goL w p 257 ls 0).2).2.2.2.2⟩
theorem made_may {w : Int} {ls : List Leaf} (p : Dig) (hg : GoodL ls 0) : (madeS w ls p).may = true := by
  obtain ⟨h1, h2⟩ := go_len w p 257 ls 0 rfl (by omega) hg
  have h3 := fun x => go_mem w p 257 ls 0 x (fun _ _ i hi => by omega)
  unfold madeS
  revert h1 h2 h3
  generalize goL w p 257 ls 0 = g
  obtain ⟨ds, rest⟩ := g
  intro h1 h2 h3
  simp only at h1 h2 h3 ⊢
  unfold Said.may
  match rest, h2 with
  | [], _ => simp [saysL]; omega
  | [x], _ =>
    by_cases hx : x.p = p
    · simp [saysL, hx]; omega
    · obtain ⟨_, h4⟩ := h3 x (by simp)
      have h5 := along_common h4 (by omega)
      simp [saysL, hx]; omega
theorem made_top {w : Int} {ls : List Leaf} (p : Dig) (hg : GoodL ls 0) : (madeS w ls p).top = dg w 257 ls 0 := by
  obtain ⟨h1, h2⟩ := go_len w p 257 ls 0 rfl (by omega) hg
  have h4 := climb_go w p 257 ls 0 rfl hg
  rw [Said.top_climb, ← h4]
  unfold madeS
  revert h1 h2
  generalize goL w p 257 ls 0 = g
  obtain ⟨ds, rest⟩ := g
  intro h1 h2
  simp only at h1 h2 ⊢
  congr 1
  obtain ⟨f, hf⟩ : ∃ f, 257 - (0 + ds.length) = f + 1 := ⟨256 - ds.length, by omega⟩
  rw [hf]
  match rest, h2 with
  | [], _ => rfl
  | [x], _ =>
    by_cases hx : x.p = p
    · subst hx; simp [saysL, Said.start, dg, leafD]
    · simp [saysL, hx, Said.start, dg, leafD]
def thereL (ls : List Leaf) (p : Dig) (pr : Bool) (v : Dig) (t : Nat) : Bool := (ls.take t).any fun l => decide (l.p = p) && (pr && decide (l.v = v))
theorem thereL_succ {ls : List Leaf} {t : Nat} (p : Dig) (pr : Bool) (v : Dig) (h : t < ls.length) : thereL ls p pr v (t + 1) = (thereL ls p pr v t || (decide ((ls.getD t noLeaf).p = p) && (pr && decide ((ls.getD t noLeaf).v = v)))) := by
  unfold thereL
  rw [List.take_succ_eq_append_getElem h, List.any_append]
  simp [List.getD_eq_getElem?_getD, h]
theorem there_made (w : Int) (ls : List Leaf) (p : Dig) (hg : GoodL ls 0) : thereL ls p (saysL p (goL w p 257 ls 0).2).1 (saysL p (goL w p 257 ls 0).2).2.1 ls.length = (saysL p (goL w p 257 ls 0).2).1 := by
  obtain ⟨_, h2⟩ := go_len w p 257 ls 0 rfl (by omega) hg
  have h3 := fun x => go_mem w p 257 ls 0 x (fun _ _ i hi => by omega)
  revert h2 h3
  generalize (goL w p 257 ls 0).2 = rest
  intro h2 h3
  unfold thereL
  rw [List.take_length]
  match rest, h2 with
  | [], _ => simp [saysL]
  | [x], _ =>
    by_cases hx : x.p = p
    · have hm := (h3 x (by simp)).1
      simp only [saysL, hx, if_true, Bool.true_and]
      rw [List.any_eq_true]
      exact ⟨x, hm, by simp [hx]⟩
    · simp [saysL, hx]
/-! the example -/
theorem chk_no : ¬ shortD 32 (sha (0 :: catD [dig1 9, Dig.zero])) = emptyD 32 := by decide +kernel
theorem chk_p : ¬ dig1 9 = Dig.zero := by decide +kernel
end Go.Vg
end
