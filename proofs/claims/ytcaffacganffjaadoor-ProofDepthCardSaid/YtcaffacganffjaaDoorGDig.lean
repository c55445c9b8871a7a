/- The walks of a part of the program: GDig. Printed by a program of the prover. -/
import Derived.Test.YtcaffacganffjaaDoorVDig
import Derived.Test.YtcaffacganffjaaDoorVTypes
import Derived.Test.YtcaffacganffjaaDoorGOnce2
namespace Go.Proofs.YtcaffacganffjaaDoor
open Go Go.Vg

def DigAt (P : Program) (f : FuncId) (T : TypeId) (t : KT) (w : Int) : Prop := ∀ w0, KeysAt w0 → 0 ∉ keys [t.ents T] → Vg.Loc (keys [t.ents T]) w0 w0 [t.ents T] → Calls P f #[.pointer t.ad, vI w] w0 fun e w' => e = .returned (dv (t.dig w)) ∧ Vg.Loc (keys [t.ents T]) w0 w' []
theorem five {b kb wb : Nat} {o o1 o2 : Obj} {cx cy : Chunk} (h : (keys [[(b, o)], cx, cy, [(kb, o1)], [(wb, o2)]]).Nodup) : b ∉ keys [cx, cy] ∧ kb ∉ keys [cx, cy] ∧ wb ∉ keys [cx, cy] := by
  simp only [keys, List.flatten_cons, List.flatten_nil, List.append_nil, List.map_append, List.map_cons, List.map_nil, List.singleton_append, List.nodup_cons, List.nodup_append, List.mem_append, List.mem_cons, List.not_mem_nil, or_false] at h ⊢
  obtain ⟨h1, h2, h3, h4⟩ := h
  refine ⟨fun hb => h1 (hb.elim .inl fun q => .inr (.inl q)), fun hb => ?_, fun hb => ?_⟩
  · exact hb.elim (fun q => h4 kb q kb (.inr (.inl rfl)) rfl) (fun q => h3.2.2 kb q kb (.inl rfl) rfl)
  · exact hb.elim (fun q => h4 wb q wb (.inr (.inr rfl)) rfl) (fun q => h3.2.2 wb q wb (.inr rfl) rfl)

set_option maxRecDepth 100000 in
set_option maxHeartbeats 4000000 in
theorem clo_leaf (b kb wb : Nat) (w : Int) (l : Leaf) (w0 : World) (hK : KeysAt w0) (h0 : 0 ∉ (b :: keys [[(kb, ob [(vp b 0)] 63)], [(wb, ob [(vI w)] 3)]])) (hL0 : Vg.Loc (b :: keys [[(kb, ob [(vp b 0)] 63)], [(wb, ob [(vI w)] 3)]]) w0 w0 [[(b, ob ([(v32 0), (Value.int .i32 1), (v32 0)] ++ (digC Dig.zero ++ (digC l.p ++ (digC l.v ++ ([(Value.pointer none), (Value.pointer none)]))))) 98)], [(kb, ob [(vp b 0)] 63)], [(wb, ob [(vI w)] 3)]]) :
    Calls Tryd.prog 48 #[(vp kb 0), (vp wb 0)] w0 fun e w' => e = .returned (.tuple #[]) ∧ Vg.Loc (b :: keys [[(kb, ob [(vp b 0)] 63)], [(wb, ob [(vI w)] 3)]]) w0 w' [[(b, ob ([(v32 0), (Value.int .i32 1), (v32 0)] ++ (digC (leafD w l) ++ (digC l.p ++ (digC l.v ++ ([(Value.pointer none), (Value.pointer none)]))))) 98)], [(kb, ob [(vp b 0)] 63)], [(wb, ob [(vI w)] 3)]] := by
  refine c_enter (n := 32) (args := [(vp kb 0), (vp wb 0)]) Tryd.func48 rfl rfl (Nat.le_of_ble_eq_true rfl) rfl (fun a hT => ?_)
  simp only [List.zipIdx_cons, List.zipIdx_nil, List.map_cons, List.map_nil, Nat.reduceAdd] at hT
  have hL := hL0
  refine c_seq ?_
  refine c_region ?_
  refine l_q hT (q_load hT rfl Tryd.ty63 (hL.rd 1 rfl 0 (ds := [(vp b 0)]) rfl)) rfl rfl (by decide) ?_; clear hT; intro a hT
  refine l_do rfl ?_
  refine w_callT (xs := [.tmp 2]) hT rfl (vs := [(vp b 0)]) rfl (args := #[(vp b 0)]) rfl Tryd.func45 rfl rfl (by decide) ((inner_some b none none _ (hL.rd 0 rfl 99 rfl)).mono ?_)
  rintro e w1 ⟨rfl, hX⟩
  refine ⟨_, rfl, ?_⟩; clear hT; intro a hT; replace hT : Tm 32 a ((3, (Value.bool false)) :: _) := hT
  replace hL := hL.ext hX
  refine l_end ?_
  refine then_norm ?_
  refine c_false hT rfl rfl ?_
  refine d_start' hL #[false, false, false, false, false, false, false, false, false, false, false] [10] rfl rfl rfl ?_; clear hL; intro w2 hL hE; have hR := hL; have hS := Ext.refl w2
  refine d_take (i := 0) hT #[true, false, false, false, false, false, false, false, false, false, false] rfl (by kernel_rfl) rfl rfl (by decide) (fun _ _ _ h => h) (fun _ hs => q_load hT rfl Tryd.ty63 (Rd.ext (hR.rd 1 rfl 0 (ds := [(vp b 0)]) rfl) hs)) hS ?_; clear hT; intro a hT
  refine d_take (i := 1) hT #[true, true, false, false, false, false, false, false, false, false, false] rfl (by kernel_rfl) rfl rfl (by decide) (fun _ _ _ h => h) (fun _ hs => q_load hT rfl Tryd.ty3 (Rd.ext (hR.rd 2 rfl 0 (ds := [(vI w)]) rfl) hs)) hS ?_; clear hT; intro a hT
  refine d_take (i := 2) hT #[true, true, true, false, false, false, false, false, false, false, false] rfl (by kernel_rfl) rfl rfl (by decide) (fun _ _ _ h => h) (fun _ hs => q_load hT rfl Tryd.ty63 (Rd.ext (hR.rd 1 rfl 0 (ds := [(vp b 0)]) rfl) hs)) hS ?_; clear hT; intro a hT
  refine d_pure (i := 3) hT #[true, true, true, true, false, false, false, false, false, false, false] rfl (by kernel_rfl) rfl rfl (by decide) (fun _ _ _ h => h) (fun _ => q_nilCheck hT rfl) ?_; clear hT; intro a hT
  refine d_pure (i := 4) hT #[true, true, true, true, true, false, false, false, false, false, false] rfl (by kernel_rfl) rfl rfl (by decide) (fun _ _ _ h => h) (fun _ => q_fieldAddr hT rfl Tryd.fld98_1 rfl) ?_; clear hT; intro a hT
  refine d_take (i := 5) hT #[true, true, true, true, true, true, false, false, false, false, false] rfl (by kernel_rfl) rfl rfl (by decide) (fun _ _ _ h => h) (fun _ hs => q_load_agg hT rfl Tryd.ty36 (Rd.ext (hR.rd 0 rfl 35 (ds := digC l.p ++ (digC l.v)) rfl) hs) rfl) hS ?_; clear hT; intro a hT
  refine d_one (i := 6) hT #[true, true, true, true, true, true, true, false, false, false, false] rfl (by kernel_rfl) rfl ?_
  refine w_callT (xs := [.tmp 23, .tmp 27]) hT rfl (vs := [(vI w), (Value.agg (digC l.p ++ (digC l.v)).toArray)]) rfl (args := #[(vI w), (Value.agg (digC l.p ++ (digC l.v)).toArray)]) rfl Tryd.func16 rfl rfl (by decide) ((Leaf_spec (w) l _ (KeysAt.of hK hL h0)).mono ?_)
  rintro e w3 ⟨rfl, hX⟩
  refine ⟨_, rfl, ?_⟩; clear hT; intro a hT; replace hT : Tm 32 a ((28, (Value.agg (digC (leafD w l)).toArray)) :: _) := hT
  replace hL := hL.ext hX
  replace hS := Vg.Loc.ext hS hX; refine ⟨fun _ => hS, ?_⟩
  refine d_pure (i := 7) hT #[true, true, true, true, true, true, true, true, false, false, false] rfl (by kernel_rfl) rfl rfl (by decide) (fun _ _ _ h => h) (fun _ => q_nilCheck hT rfl) ?_; clear hT; intro a hT
  refine d_pure (i := 8) hT #[true, true, true, true, true, true, true, true, true, false, false] rfl (by kernel_rfl) rfl rfl (by decide) (fun _ _ _ h => h) (fun _ => q_fieldAddr hT rfl Tryd.fld98_0 rfl) ?_; clear hT; intro a hT
  refine d_pure (i := 9) hT #[true, true, true, true, true, true, true, true, true, true, false] rfl (by kernel_rfl) rfl rfl (by decide) (fun _ _ _ h => h) (fun _ => q_fieldAddr hT rfl Tryd.fld96_1 rfl) ?_; clear hT; intro a hT
  refine d_one (i := 10) hT #[true, true, true, true, true, true, true, true, true, true, true] rfl (by kernel_rfl) rfl ?_
  refine w_store hT hL 0 (c := [(v32 0), (Value.int .i32 1), (v32 0)] ++ (digC Dig.zero ++ (digC l.p ++ (digC l.v ++ ([(Value.pointer none), (Value.pointer none)]))))) rfl rfl Tryd.ty24 rfl (vs := digC (leafD w l)) rfl rfl (by first | decide | (simp [arr32_len, arr8_len, digC_len]; done) | (simp [arr32_len, arr8_len, digC_len]; omega)) rfl (c' := [(v32 0), (Value.int .i32 1), (v32 0)] ++ (digC (leafD w l) ++ (digC l.p ++ (digC l.v ++ ([(Value.pointer none), (Value.pointer none)]))))) rfl ?_; clear hL; intro w4 hL hE
  replace hL : Vg.Loc (b :: keys [[(kb, ob [(vp b 0)] 63)], [(wb, ob [(vI w)] 3)]]) w0 w4 ([[(b, ob ([(v32 0), (Value.int .i32 1), (v32 0)] ++ (digC (leafD w l) ++ (digC l.p ++ (digC l.v ++ ([(Value.pointer none), (Value.pointer none)]))))) 98)], [(kb, ob [(vp b 0)] 63)], [(wb, ob [(vI w)] 3)]]) := hL
  refine ⟨fun hn => absurd (by decide) hn, ?_⟩
  refine d_done (by kernel_rfl) ?_; clear hR hS
  refine c_fall (vs := []) (rs := []) hT rfl .nil ?_
  replace hL : Vg.Loc (b :: keys [[(kb, ob [(vp b 0)] 63)], [(wb, ob [(vI w)] 3)]]) w0 w4 ([[(wb, ob [(vI w)] 3)], [(b, ob ([(v32 0), (Value.int .i32 1), (v32 0)] ++ (digC (leafD w l) ++ (digC l.p ++ (digC l.v ++ ([(Value.pointer none), (Value.pointer none)]))))) 98)], [(kb, ob [(vp b 0)] 63)]]) := hL.front 2 rfl rfl
  replace hL : Vg.Loc (b :: keys [[(kb, ob [(vp b 0)] 63)], [(wb, ob [(vI w)] 3)]]) w0 w4 ([[(kb, ob [(vp b 0)] 63)], [(wb, ob [(vI w)] 3)], [(b, ob ([(v32 0), (Value.int .i32 1), (v32 0)] ++ (digC (leafD w l) ++ (digC l.p ++ (digC l.v ++ ([(Value.pointer none), (Value.pointer none)]))))) 98)]]) := hL.front 2 rfl rfl
  replace hL : Vg.Loc (b :: keys [[(kb, ob [(vp b 0)] 63)], [(wb, ob [(vI w)] 3)]]) w0 w4 ([[(b, ob ([(v32 0), (Value.int .i32 1), (v32 0)] ++ (digC (leafD w l) ++ (digC l.p ++ (digC l.v ++ ([(Value.pointer none), (Value.pointer none)]))))) 98)], [(kb, ob [(vp b 0)] 63)], [(wb, ob [(vI w)] 3)]]) := hL.front 2 rfl rfl
  exact ⟨rfl, hL⟩

set_option maxRecDepth 100000 in
set_option maxHeartbeats 4000000 in
theorem clo_node (b kb wb : Nat) (w : Int) (x y : KT) (hsome : (x.ad.isSome || y.ad.isSome) = true) (ihx : DigAt Tryd.prog 33 98 x w) (ihy : DigAt Tryd.prog 33 98 y w) (w0 : World) (hK : KeysAt w0) (h0 : 0 ∉ (b :: keys [(x.ents 98), (y.ents 98), [(kb, ob [(vp b 0)] 63)], [(wb, ob [(vI w)] 3)]])) (hL0 : Vg.Loc (b :: keys [(x.ents 98), (y.ents 98), [(kb, ob [(vp b 0)] 63)], [(wb, ob [(vI w)] 3)]]) w0 w0 [[(b, ob ([(v32 0), (Value.int .i32 1), (v32 0)] ++ (digC Dig.zero ++ (digC noLeaf.p ++ (digC noLeaf.v ++ ([(Value.pointer x.ad), (Value.pointer y.ad)]))))) 98)], (x.ents 98), (y.ents 98), [(kb, ob [(vp b 0)] 63)], [(wb, ob [(vI w)] 3)]]) :
    Calls Tryd.prog 48 #[(vp kb 0), (vp wb 0)] w0 fun e w' => e = .returned (.tuple #[]) ∧ Vg.Loc (b :: keys [(x.ents 98), (y.ents 98), [(kb, ob [(vp b 0)] 63)], [(wb, ob [(vI w)] 3)]]) w0 w' [[(b, ob ([(v32 0), (Value.int .i32 1), (v32 0)] ++ (digC (nodeD w (x.dig w) (y.dig w)) ++ (digC noLeaf.p ++ (digC noLeaf.v ++ ([(Value.pointer x.ad), (Value.pointer y.ad)]))))) 98)], [(kb, ob [(vp b 0)] 63)], [(wb, ob [(vI w)] 3)]] := by
  refine c_enter (n := 32) (args := [(vp kb 0), (vp wb 0)]) Tryd.func48 rfl rfl (Nat.le_of_ble_eq_true rfl) rfl (fun a hT => ?_)
  simp only [List.zipIdx_cons, List.zipIdx_nil, List.map_cons, List.map_nil, Nat.reduceAdd] at hT
  have hL := hL0
  have hx0 : 0 ∉ keys [(x.ents 98)] := fun h => h0 (by simp only [keys, List.flatten_cons, List.flatten_nil, List.append_nil, List.map_append, List.mem_append, List.mem_cons] at h ⊢; exact .inr (.inl h))
  have hy0 : 0 ∉ keys [(y.ents 98)] := fun h => h0 (by simp only [keys, List.flatten_cons, List.flatten_nil, List.append_nil, List.map_append, List.mem_append, List.mem_cons] at h ⊢; exact .inr (.inr (.inl h)))
  obtain ⟨hnb, hnk, hnw⟩ := five hL0.nd
  refine c_seq ?_
  refine c_region ?_
  refine l_q hT (q_load hT rfl Tryd.ty63 (hL.rd 3 rfl 0 (ds := [(vp b 0)]) rfl)) rfl rfl (by decide) ?_; clear hT; intro a hT
  refine l_do rfl ?_
  refine w_callT (xs := [.tmp 2]) hT rfl (vs := [(vp b 0)]) rfl (args := #[(vp b 0)]) rfl Tryd.func45 rfl rfl (by decide) ((inner_some b x.ad y.ad _ (hL.rd 0 rfl 99 rfl)).mono ?_)
  rintro e w1 ⟨rfl, hX⟩
  refine ⟨_, rfl, ?_⟩; clear hT; intro a hT; replace hT : Tm 32 a ((3, (Value.bool (x.ad.isSome || y.ad.isSome))) :: _) := hT
  replace hL := hL.ext hX
  rw [hsome] at hT
  refine l_end ?_
  refine then_norm ?_
  refine c_true hT rfl rfl ?_
  refine d_startM hL (keys [(x.ents 98), (y.ents 98)]) #[false, false, false, false, false, false, false, false, false, false, false, false, false, false, false, false, false, false, false] [18] rfl rfl rfl ?_; clear hL; intro w2 hL hS; have hR := hL
  refine d_take (i := 0) hT #[true, false, false, false, false, false, false, false, false, false, false, false, false, false, false, false, false, false, false] rfl (by kernel_rfl) rfl rfl (by decide) (fun _ _ _ h => h) (fun _ hs => q_load hT rfl Tryd.ty63 (Rd.loc (hR.rd 3 rfl 0 (ds := [(vp b 0)]) rfl) hs hnk)) hS ?_; clear hT; intro a hT
  refine d_take (i := 1) hT #[true, true, false, false, false, false, false, false, false, false, false, false, false, false, false, false, false, false, false] rfl (by kernel_rfl) rfl rfl (by decide) (fun _ _ _ h => h) (fun _ hs => q_load hT rfl Tryd.ty3 (Rd.loc (hR.rd 4 rfl 0 (ds := [(vI w)]) rfl) hs hnw)) hS ?_; clear hT; intro a hT
  refine d_take (i := 2) hT #[true, true, true, false, false, false, false, false, false, false, false, false, false, false, false, false, false, false, false] rfl (by kernel_rfl) rfl rfl (by decide) (fun _ _ _ h => h) (fun _ hs => q_load hT rfl Tryd.ty63 (Rd.loc (hR.rd 3 rfl 0 (ds := [(vp b 0)]) rfl) hs hnk)) hS ?_; clear hT; intro a hT
  refine d_pure (i := 3) hT #[true, true, true, true, false, false, false, false, false, false, false, false, false, false, false, false, false, false, false] rfl (by kernel_rfl) rfl rfl (by decide) (fun _ _ _ h => h) (fun _ => q_nilCheck hT rfl) ?_; clear hT; intro a hT
  refine d_pure (i := 4) hT #[true, true, true, true, true, false, false, false, false, false, false, false, false, false, false, false, false, false, false] rfl (by kernel_rfl) rfl rfl (by decide) (fun _ _ _ h => h) (fun _ => q_fieldAddr hT rfl Tryd.fld98_2 rfl) ?_; clear hT; intro a hT
  refine d_take (i := 5) hT #[true, true, true, true, true, true, false, false, false, false, false, false, false, false, false, false, false, false, false] rfl (by kernel_rfl) rfl rfl (by decide) (fun _ _ _ h => h) (fun _ hs => q_load hT rfl Tryd.ty63 (Rd.loc (hR.rd 0 rfl 99 (ds := [(Value.pointer x.ad)]) rfl) hs hnb)) hS ?_; clear hT; intro a hT
  refine d_take (i := 6) hT #[true, true, true, true, true, true, true, false, false, false, false, false, false, false, false, false, false, false, false] rfl (by kernel_rfl) rfl rfl (by decide) (fun _ _ _ h => h) (fun _ hs => q_load hT rfl Tryd.ty3 (Rd.loc (hR.rd 4 rfl 0 (ds := [(vI w)]) rfl) hs hnw)) hS ?_; clear hT; intro a hT
  refine d_take (i := 8) hT #[true, true, true, true, true, true, true, false, true, false, false, false, false, false, false, false, false, false, false] rfl (by kernel_rfl) rfl rfl (by decide) (fun _ _ _ h => h) (fun _ hs => q_load hT rfl Tryd.ty63 (Rd.loc (hR.rd 3 rfl 0 (ds := [(vp b 0)]) rfl) hs hnk)) hS ?_; clear hT; intro a hT
  refine d_pure (i := 9) hT #[true, true, true, true, true, true, true, false, true, true, false, false, false, false, false, false, false, false, false] rfl (by kernel_rfl) rfl rfl (by decide) (fun _ _ _ h => h) (fun _ => q_nilCheck hT rfl) ?_; clear hT; intro a hT
  refine d_pure (i := 10) hT #[true, true, true, true, true, true, true, false, true, true, true, false, false, false, false, false, false, false, false] rfl (by kernel_rfl) rfl rfl (by decide) (fun _ _ _ h => h) (fun _ => q_fieldAddr hT rfl Tryd.fld98_3 rfl) ?_; clear hT; intro a hT
  refine d_take (i := 11) hT #[true, true, true, true, true, true, true, false, true, true, true, true, false, false, false, false, false, false, false] rfl (by kernel_rfl) rfl rfl (by decide) (fun _ _ _ h => h) (fun _ hs => q_load hT rfl Tryd.ty63 (Rd.loc (hR.rd 0 rfl 100 (ds := [(Value.pointer y.ad)]) rfl) hs hnb)) hS ?_; clear hT; intro a hT
  refine d_take (i := 12) hT #[true, true, true, true, true, true, true, false, true, true, true, true, true, false, false, false, false, false, false] rfl (by kernel_rfl) rfl rfl (by decide) (fun _ _ _ h => h) (fun _ hs => q_load hT rfl Tryd.ty3 (Rd.loc (hR.rd 4 rfl 0 (ds := [(vI w)]) rfl) hs hnw)) hS ?_; clear hT; intro a hT
  refine d_one (i := 7) hT #[true, true, true, true, true, true, true, true, true, true, true, true, true, false, false, false, false, false, false] rfl (by kernel_rfl) rfl ?_
  replace hL : Vg.Loc (b :: keys [(x.ents 98), (y.ents 98), [(kb, ob [(vp b 0)] 63)], [(wb, ob [(vI w)] 3)]]) w0 w2 ([(x.ents 98), [(b, ob ([(v32 0), (Value.int .i32 1), (v32 0)] ++ (digC Dig.zero ++ (digC noLeaf.p ++ (digC noLeaf.v ++ ([(Value.pointer x.ad), (Value.pointer y.ad)]))))) 98)], (y.ents 98), [(kb, ob [(vp b 0)] 63)], [(wb, ob [(vI w)] 3)]]) := hL.front 1 rfl rfl
  refine w_callT (xs := [.tmp 9, .tmp 10]) hT rfl (vs := [(Value.pointer x.ad), (vI w)]) rfl (args := #[(Value.pointer x.ad), (vI w)]) rfl Tryd.func33 rfl rfl (by decide) ((ihx _ (KeysAt.of hK hL h0) hx0 (Vg.Loc.self (cs := [(x.ents 98)]) hL)).mono ?_)
  rintro e w3 ⟨rfl, hX⟩
  refine ⟨_, rfl, ?_⟩; clear hT; intro a hT; replace hT : Tm 32 a ((11, (Value.agg (digC (x.dig w)).toArray)) :: _) := hT
  replace hL : Vg.Loc (b :: keys [(x.ents 98), (y.ents 98), [(kb, ob [(vp b 0)] 63)], [(wb, ob [(vI w)] 3)]]) w0 w3 ([[(b, ob ([(v32 0), (Value.int .i32 1), (v32 0)] ++ (digC Dig.zero ++ (digC noLeaf.p ++ (digC noLeaf.v ++ ([(Value.pointer x.ad), (Value.pointer y.ad)]))))) 98)], (y.ents 98), [(kb, ob [(vp b 0)] 63)], [(wb, ob [(vI w)] 3)]]) := Vg.Loc.call (ci := [(x.ents 98)]) (cr := [[(b, ob ([(v32 0), (Value.int .i32 1), (v32 0)] ++ (digC Dig.zero ++ (digC noLeaf.p ++ (digC noLeaf.v ++ ([(Value.pointer x.ad), (Value.pointer y.ad)]))))) 98)], (y.ents 98), [(kb, ob [(vp b 0)] 63)], [(wb, ob [(vI w)] 3)]]) hL hX
  replace hS := Vg.Loc.frame hS hX (fun k hk => .inl (by simp only [keys, List.flatten_cons, List.flatten_nil, List.append_nil, List.map_append, List.mem_append] at hk ⊢; first | exact .inl hk | exact .inr hk)); refine ⟨fun _ => hS, ?_⟩
  refine d_one (i := 13) hT #[true, true, true, true, true, true, true, true, true, true, true, true, true, true, false, false, false, false, false] rfl (by kernel_rfl) rfl ?_
  replace hL : Vg.Loc (b :: keys [(x.ents 98), (y.ents 98), [(kb, ob [(vp b 0)] 63)], [(wb, ob [(vI w)] 3)]]) w0 w3 ([(y.ents 98), [(b, ob ([(v32 0), (Value.int .i32 1), (v32 0)] ++ (digC Dig.zero ++ (digC noLeaf.p ++ (digC noLeaf.v ++ ([(Value.pointer x.ad), (Value.pointer y.ad)]))))) 98)], [(kb, ob [(vp b 0)] 63)], [(wb, ob [(vI w)] 3)]]) := hL.front 1 rfl rfl
  refine w_callT (xs := [.tmp 15, .tmp 16]) hT rfl (vs := [(Value.pointer y.ad), (vI w)]) rfl (args := #[(Value.pointer y.ad), (vI w)]) rfl Tryd.func33 rfl rfl (by decide) ((ihy _ (KeysAt.of hK hL h0) hy0 (Vg.Loc.self (cs := [(y.ents 98)]) hL)).mono ?_)
  rintro e w4 ⟨rfl, hX⟩
  refine ⟨_, rfl, ?_⟩; clear hT; intro a hT; replace hT : Tm 32 a ((17, (Value.agg (digC (y.dig w)).toArray)) :: _) := hT
  replace hL : Vg.Loc (b :: keys [(x.ents 98), (y.ents 98), [(kb, ob [(vp b 0)] 63)], [(wb, ob [(vI w)] 3)]]) w0 w4 ([[(b, ob ([(v32 0), (Value.int .i32 1), (v32 0)] ++ (digC Dig.zero ++ (digC noLeaf.p ++ (digC noLeaf.v ++ ([(Value.pointer x.ad), (Value.pointer y.ad)]))))) 98)], [(kb, ob [(vp b 0)] 63)], [(wb, ob [(vI w)] 3)]]) := Vg.Loc.call (ci := [(y.ents 98)]) (cr := [[(b, ob ([(v32 0), (Value.int .i32 1), (v32 0)] ++ (digC Dig.zero ++ (digC noLeaf.p ++ (digC noLeaf.v ++ ([(Value.pointer x.ad), (Value.pointer y.ad)]))))) 98)], [(kb, ob [(vp b 0)] 63)], [(wb, ob [(vI w)] 3)]]) hL hX
  replace hS := Vg.Loc.frame hS hX (fun k hk => .inl (by simp only [keys, List.flatten_cons, List.flatten_nil, List.append_nil, List.map_append, List.mem_append] at hk ⊢; first | exact .inl hk | exact .inr hk)); refine ⟨fun _ => hS, ?_⟩
  refine d_one (i := 14) hT #[true, true, true, true, true, true, true, true, true, true, true, true, true, true, true, false, false, false, false] rfl (by kernel_rfl) rfl ?_
  refine w_callT (xs := [.tmp 5, .tmp 11, .tmp 17]) hT rfl (vs := [(vI w), (Value.agg (digC (x.dig w)).toArray), (Value.agg (digC (y.dig w)).toArray)]) rfl (args := #[(vI w), (Value.agg (digC (x.dig w)).toArray), (Value.agg (digC (y.dig w)).toArray)]) rfl Tryd.func26 rfl rfl (by decide) ((Node_spec (w) (x.dig w) (y.dig w) _ (KeysAt.of hK hL h0)).mono ?_)
  rintro e w5 ⟨rfl, hX⟩
  refine ⟨_, rfl, ?_⟩; clear hT; intro a hT; replace hT : Tm 32 a ((18, (Value.agg (digC (nodeD w (x.dig w) (y.dig w))).toArray)) :: _) := hT
  replace hL := hL.ext hX
  replace hS := Vg.Loc.ext hS hX; refine ⟨fun _ => hS, ?_⟩
  refine d_pure (i := 15) hT #[true, true, true, true, true, true, true, true, true, true, true, true, true, true, true, true, false, false, false] rfl (by kernel_rfl) rfl rfl (by decide) (fun _ _ _ h => h) (fun _ => q_nilCheck hT rfl) ?_; clear hT; intro a hT
  refine d_pure (i := 16) hT #[true, true, true, true, true, true, true, true, true, true, true, true, true, true, true, true, true, false, false] rfl (by kernel_rfl) rfl rfl (by decide) (fun _ _ _ h => h) (fun _ => q_fieldAddr hT rfl Tryd.fld98_0 rfl) ?_; clear hT; intro a hT
  refine d_pure (i := 17) hT #[true, true, true, true, true, true, true, true, true, true, true, true, true, true, true, true, true, true, false] rfl (by kernel_rfl) rfl rfl (by decide) (fun _ _ _ h => h) (fun _ => q_fieldAddr hT rfl Tryd.fld96_1 rfl) ?_; clear hT; intro a hT
  refine d_one (i := 18) hT #[true, true, true, true, true, true, true, true, true, true, true, true, true, true, true, true, true, true, true] rfl (by kernel_rfl) rfl ?_
  refine w_store hT hL 0 (c := [(v32 0), (Value.int .i32 1), (v32 0)] ++ (digC Dig.zero ++ (digC noLeaf.p ++ (digC noLeaf.v ++ ([(Value.pointer x.ad), (Value.pointer y.ad)]))))) rfl rfl Tryd.ty24 rfl (vs := digC (nodeD w (x.dig w) (y.dig w))) rfl rfl (by first | decide | (simp [arr32_len, arr8_len, digC_len]; done) | (simp [arr32_len, arr8_len, digC_len]; omega)) rfl (c' := [(v32 0), (Value.int .i32 1), (v32 0)] ++ (digC (nodeD w (x.dig w) (y.dig w)) ++ (digC noLeaf.p ++ (digC noLeaf.v ++ ([(Value.pointer x.ad), (Value.pointer y.ad)]))))) rfl ?_; clear hL; intro w6 hL hE
  replace hL : Vg.Loc (b :: keys [(x.ents 98), (y.ents 98), [(kb, ob [(vp b 0)] 63)], [(wb, ob [(vI w)] 3)]]) w0 w6 ([[(b, ob ([(v32 0), (Value.int .i32 1), (v32 0)] ++ (digC (nodeD w (x.dig w) (y.dig w)) ++ (digC noLeaf.p ++ (digC noLeaf.v ++ ([(Value.pointer x.ad), (Value.pointer y.ad)]))))) 98)], [(kb, ob [(vp b 0)] 63)], [(wb, ob [(vI w)] 3)]]) := hL
  refine ⟨fun hn => absurd (by decide) hn, ?_⟩
  refine d_done (by kernel_rfl) ?_; clear hR hS
  refine c_fall (vs := []) (rs := []) hT rfl .nil ?_
  replace hL : Vg.Loc (b :: keys [(x.ents 98), (y.ents 98), [(kb, ob [(vp b 0)] 63)], [(wb, ob [(vI w)] 3)]]) w0 w6 ([[(wb, ob [(vI w)] 3)], [(b, ob ([(v32 0), (Value.int .i32 1), (v32 0)] ++ (digC (nodeD w (x.dig w) (y.dig w)) ++ (digC noLeaf.p ++ (digC noLeaf.v ++ ([(Value.pointer x.ad), (Value.pointer y.ad)]))))) 98)], [(kb, ob [(vp b 0)] 63)]]) := hL.front 2 rfl rfl
  replace hL : Vg.Loc (b :: keys [(x.ents 98), (y.ents 98), [(kb, ob [(vp b 0)] 63)], [(wb, ob [(vI w)] 3)]]) w0 w6 ([[(kb, ob [(vp b 0)] 63)], [(wb, ob [(vI w)] 3)], [(b, ob ([(v32 0), (Value.int .i32 1), (v32 0)] ++ (digC (nodeD w (x.dig w) (y.dig w)) ++ (digC noLeaf.p ++ (digC noLeaf.v ++ ([(Value.pointer x.ad), (Value.pointer y.ad)]))))) 98)]]) := hL.front 2 rfl rfl
  replace hL : Vg.Loc (b :: keys [(x.ents 98), (y.ents 98), [(kb, ob [(vp b 0)] 63)], [(wb, ob [(vI w)] 3)]]) w0 w6 ([[(b, ob ([(v32 0), (Value.int .i32 1), (v32 0)] ++ (digC (nodeD w (x.dig w) (y.dig w)) ++ (digC noLeaf.p ++ (digC noLeaf.v ++ ([(Value.pointer x.ad), (Value.pointer y.ad)]))))) 98)], [(kb, ob [(vp b 0)] 63)], [(wb, ob [(vI w)] 3)]]) := hL.front 2 rfl rfl
  exact ⟨rfl, hL⟩
end Go.Proofs.YtcaffacganffjaaDoor
