/- The walks of a part of the program: GRef3. Printed by a program of the prover. The document's proof is the program's: halves of leaves, what is left, what is said. The walks of a part of the program: GRef4. Printed by a program of the prover. -/
import Derived.Test.YtcaffacganffjaaGreatDoorM2
import Derived.Test.YtcaffacganffjaaGreatDoorM6
import Derived.Test.YtcaffacganffjaaGreatDoorM9
import Derived.Test.YtcaffacganffjaaGreatDoorM8
import Derived.Test.YtcaffacganffjaaGreatDoorM5

section
namespace Go.Proofs.YtcaffacganffjaaGreatDoor
open Go Go.Vg


set_option maxRecDepth 20000 in
set_option maxHeartbeats 1000000 in
theorem turned_spec (x : UInt32) (n : Nat) (hn : n < 32) (w0 : World) :
    Calls Tryz.prog 182 #[(v32 x), (vI (n : Int))] w0 fun e w' => e = .returned (v32 (rotl x (32 - n))) ∧ Ext w0 w' := by
  refine c_enter (n := 13) (args := [(v32 x), (vI (n : Int))]) Tryz.func182 rfl rfl (Nat.le_of_ble_eq_true rfl) rfl (fun a hT => ?_)
  simp only [List.zipIdx_cons, List.zipIdx_nil, List.map_cons, List.map_nil, Nat.reduceAdd] at hT
  have hL := Vg.Loc.refl [] w0
  refine c_seq ?_
  refine c_region ?_
  refine l_q hT (q_assign hT rfl) rfl rfl (by decide) ?_; clear hT; intro a hT
  refine l_end ?_
  refine then_norm ?_
  refine c_seq ?_
  refine d_start' hL #[false, false, false, false, false, false, false, false, false] [] rfl rfl rfl ?_; clear hL; intro w1 hL hE; have hR := hL; have hS := Ext.refl w1
  refine d_pure (i := 0) hT #[true, false, false, false, false, false, false, false, false] rfl (by kernel_rfl) rfl rfl (by decide) (fun _ _ _ h => h) (fun _ => q_move hT rfl) ?_; clear hT; intro a hT
  refine d_pure (i := 1) hT #[true, true, false, false, false, false, false, false, false] rfl (by kernel_rfl) rfl rfl (by decide) (fun _ _ _ h => h) (fun _ => q_move hT rfl) ?_; clear hT; intro a hT
  refine d_pure (i := 2) hT #[true, true, true, false, false, false, false, false, false] rfl (by kernel_rfl) rfl rfl (by decide) (fun _ _ _ h => h) (fun _ => q_shr32 (u := x) (s := n) hT rfl rfl (by omega)) ?_; clear hT; intro a hT
  refine d_pure (i := 3) hT #[true, true, true, true, false, false, false, false, false] rfl (by kernel_rfl) rfl rfl (by decide) (fun _ _ _ h => h) (fun _ => q_move hT rfl) ?_; clear hT; intro a hT
  refine d_pure (i := 4) hT #[true, true, true, true, true, false, false, false, false] rfl (by kernel_rfl) rfl rfl (by decide) (fun _ _ _ h => h) (fun _ => q_move hT rfl) ?_; clear hT; intro a hT
  refine d_pure (i := 5) hT #[true, true, true, true, true, true, false, false, false] rfl (by kernel_rfl) rfl rfl (by decide) (fun _ _ _ h => h) (fun _ => (q_subI hT rfl rfl (r := 32 - (n : Int)) rfl (by omega) (by omega)).v (v := (vI ((32 - n : Nat) : Int))) (by congr 1; omega)) ?_; clear hT; intro a hT
  refine d_pure (i := 6) hT #[true, true, true, true, true, true, true, false, false] rfl (by kernel_rfl) rfl rfl (by decide) (fun _ _ _ h => h) (fun _ => q_shl32 (u := x) (s := (32 - n : Nat)) hT rfl rfl (by omega)) ?_; clear hT; intro a hT
  refine d_pure (i := 7) hT #[true, true, true, true, true, true, true, true, false] rfl (by kernel_rfl) rfl rfl (by decide) (fun _ _ _ h => h) (fun _ => q_or32 (u := shr32 x n) (v := shl32 x (32 - n : Nat)) hT rfl rfl) ?_; clear hT; intro a hT
  refine d_pure (i := 8) hT #[true, true, true, true, true, true, true, true, true] rfl (by kernel_rfl) rfl rfl (by decide) (fun _ _ _ h => h) (fun _ => q_assign hT rfl) ?_; clear hT; intro a hT
  refine d_done (by kernel_rfl) ?_; clear hR hS
  refine then_norm ?_
  refine wp_ret ?_
  refine c_ret (vs := [(v32 ((shr32 x n) ||| (shl32 x (32 - n : Nat))))]) (rs := [.tmp 4]) hT rfl (.tmp rfl .nil) ?_
  exact ⟨by simp only [packed]; rw [← rotl_or x n (by omega)], hL.drop⟩

set_option maxRecDepth 20000 in
set_option maxHeartbeats 1000000 in
theorem refBegin_spec  (w0 : World) :
    Calls Tryz.prog 154 #[] w0 fun e w' => e = .returned (.agg (arr32 8 ivF).toArray) ∧ Ext w0 w' := by
  refine c_enter (n := 2) (args := []) Tryz.func154 rfl rfl (Nat.le_of_ble_eq_true rfl) rfl (fun a hT => ?_)
  simp only [List.zipIdx_cons, List.zipIdx_nil, List.map_cons, List.map_nil, Nat.reduceAdd] at hT
  have hL := Vg.Loc.refl [] w0
  refine c_seq ?_
  refine c_region ?_
  refine l_do rfl ?_
  refine w_alloc hT hL (by decide) Tryz.ty189 ?_; clear hT hL; intro b1 a w1 hT hL hE hB
  refine l_end ?_
  refine then_norm ?_
  refine c_seq ?_
  refine c_region ?_
  refine l_q hT (q_build (ps := [(0, .const (.int .u32 1779033703)), (1, .const (.int .u32 3144134277)), (2, .const (.int .u32 1013904242)), (3, .const (.int .u32 2773480762)), (4, .const (.int .u32 1359893119)), (5, .const (.int .u32 2600822924)), (6, .const (.int .u32 528734635)), (7, .const (.int .u32 1541459225))]) (pv := [(0, (v32 1779033703)), (1, (v32 3144134277)), (2, (v32 1013904242)), (3, (v32 2773480762)), (4, (v32 1359893119)), (5, (v32 2600822924)), (6, (v32 528734635)), (7, (v32 1541459225))]) (v := .agg [(v32 1779033703), (v32 3144134277), (v32 1013904242), (v32 2773480762), (v32 1359893119), (v32 2600822924), (v32 528734635), (v32 1541459225)].toArray) hT rfl (fun _ => by kernel_rfl)) rfl rfl (by decide) ?_; clear hT; intro a hT
  refine l_do rfl ?_
  refine w_store hT hL 0 (c := arr32 8 (fun _ => 0)) rfl rfl Tryz.ty189 rfl (vs := [(v32 1779033703), (v32 3144134277), (v32 1013904242), (v32 2773480762), (v32 1359893119), (v32 2600822924), (v32 528734635), (v32 1541459225)]) rfl rfl (by first | decide | (simp [arr32_len, arr8_len, digC_len]; done) | (simp [arr32_len, arr8_len, digC_len]; omega)) rfl (c' := [(v32 1779033703), (v32 3144134277), (v32 1013904242), (v32 2773480762), (v32 1359893119), (v32 2600822924), (v32 528734635), (v32 1541459225)]) rfl ?_; clear hL; intro w2 hL hE
  replace hL : Vg.Loc [] w0 w2 ([[(b1, ob [(v32 1779033703), (v32 3144134277), (v32 1013904242), (v32 2773480762), (v32 1359893119), (v32 2600822924), (v32 528734635), (v32 1541459225)] 189)]]) := hL
  refine l_end ?_
  refine then_norm ?_
  refine wp_ret ?_
  refine c_ret (vs := [(Value.agg [(v32 1779033703), (v32 3144134277), (v32 1013904242), (v32 2773480762), (v32 1359893119), (v32 2600822924), (v32 528734635), (v32 1541459225)].toArray)]) (rs := [.cell 0 189]) hT rfl (.agg rfl Tryz.ty189 (hL.rd 0 rfl 0 (ds := [(v32 1779033703), (v32 3144134277), (v32 1013904242), (v32 2773480762), (v32 1359893119), (v32 2600822924), (v32 528734635), (v32 1541459225)]) rfl) rfl .nil) ?_
  exact ⟨rfl, hL.drop⟩
end Go.Proofs.YtcaffacganffjaaGreatDoor
end

section
namespace Go.Vg
open Go
theorem half_zeros (ls : List Leaf) (n : Nat) : halfL ls n false = zerosL ls n := by
  unfold halfL zerosL; congr 1; funext l; cases l.p.bit n <;> rfl
theorem half_ones (ls : List Leaf) (n : Nat) : halfL ls n true = onesL ls n := by
  unfold halfL onesL; congr 1; funext l; cases l.p.bit n <;> rfl
theorem half_same (p : Dig) (ls : List Leaf) (n : Nat) : halfL ls n (p.bit n) = sameL p ls n := rfl
theorem half_diff (p : Dig) (ls : List Leaf) (n : Nat) : halfL ls n (!p.bit n) = diffL p ls n := by
  unfold halfL diffL; congr 1; funext l; cases l.p.bit n <;> cases p.bit n <;> rfl
theorem bitI_if (b : Bool) : (if b then (1 : Int) else 0) = bitI b := rfl
theorem bitI_not (b : Bool) : 1 - bitI b = bitI (!b) := by cases b <;> rfl
theorem half_len (ls : List Leaf) (n : Nat) (b : Bool) : (halfL ls n b).length ≤ ls.length := List.length_filter_le _ _
theorem getL_same (p : Dig) (n : Nat) : ∀ S : List Leaf, getL (sameL p S n) p = getL S p := by
  intro S
  unfold getL sameL
  congr 1
  rw [List.find?_filter]
  congr 1
  funext l
  by_cases h : l.p = p
  · subst h; simp
  · simp [h]
theorem getL_go (w : Int) (p : Dig) : ∀ (k : Nat) (S : List Leaf) (n : Nat), getL (goL w p k S n).2 p = getL S p
  | 0, S, n => rfl
  | k + 1, S, n => by
    by_cases h : S.length ≤ 1
    · rw [goL_end h]
    · rw [goL_step (by omega), getL_go w p k, getL_same]
theorem says_get (p : Dig) (S : List Leaf) : (saysL p S).1 = (getL (S.take 1) p).2 ∧ (saysL p S).2.1 = (getL (S.take 1) p).1 := by
  cases S with
  | nil => exact ⟨rfl, rfl⟩
  | cons x r =>
    by_cases h : x.p = p <;> simp [saysL, getL, h]
theorem dg_rev (w : Int) (ls : List Leaf) : dg w 257 ls.reverse 0 = dg w 257 ls 0 := dg_perm w 257 _ _ 0 (List.reverse_perm ls)
def cpTo (d : Dig) (t : Nat) : Nat → UInt8 := fun i => if i < t then d.get i else 0
theorem cpTo_zero (d : Dig) : digC Dig.zero = arr8 32 (cpTo d 0) := by
  refine arr8_congr fun i hi => ?_
  have e : Dig.zero.get i = 0 := by
    show (List.replicate 32 (0 : UInt8)).getD i 0 = 0
    rw [List.getD_eq_getElem?_getD, List.getElem?_replicate]
    split <;> rfl
  rw [e]
  simp [cpTo]
theorem cpTo_succ (d : Dig) (t : Nat) : cpTo d (t + 1) = upd (cpTo d t) t (d.get t) := by
  funext j
  simp only [cpTo, upd]
  by_cases h1 : j = t
  · subst h1; rw [if_pos (by omega), if_pos rfl]
  · rw [if_neg h1]
    by_cases h2 : j < t
    · rw [if_pos h2, if_pos (by omega)]
    · rw [if_neg h2, if_neg (by omega)]
theorem cpTo_all (d : Dig) (wn : Nat) (h : wn ≤ 32) : arr8 32 (cpTo d wn) = digC (shortD (wn : Int) d) := by
  unfold shortD
  rw [digC_of]
  refine arr8_congr fun i hi => ?_
  unfold cpTo
  by_cases h1 : i < wn
  · rw [if_pos h1, if_pos ⟨by omega, by omega, by omega⟩]
  · rw [if_neg h1, if_neg (by omega)]
def RefDigOK (P : Program) (f : FuncId) (w : Int) (fuel : Nat) : Prop := ∀ (ls : List Leaf) (p : Option Addr) (len cap n : Nat) (w0 : World), Key2At w0 → SlT w0 p len 64 leafC noLeaf ls → GoodL ls n → fuel + n = 257 → 1 ≤ fuel → len ≤ 4096 →
  Calls P f #[vI w, .slice p len cap, vI (n : Int)] w0 fun e w' => e = .returned (dv (dg w fuel ls n)) ∧ Ext w0 w'
theorem GoodL.half {ls : List Leaf} {n : Nat} (h : GoodL ls n) (b : Bool) : GoodL (halfL ls n b) (n + 1) := by
  cases b
  · rw [half_zeros]; exact h.zeros
  · rw [half_ones]; exact h.ones
theorem leaf_bytes (l : Leaf) : [0] ++ l.p.l ++ l.v.l = 0 :: catD [l.p, l.v] := by simp [catD]
theorem node_bytes (x y : Dig) : [1] ++ x.l ++ y.l = 1 :: catD [x, y] := by simp [catD]
theorem rootE_le {w : Int} {ls : List Leaf} (h : rootE w ls = 0) : ls.length ≤ 4096 := by
  unfold rootE at h
  split at h
  · cases h
  · split at h
    · cases h
    · omega
/-- A row that lies in old memory, or is one's own. -/
def RowOf {α : Type} (enc : α → List Value) (k : Nat) (d0 : α) (w0 : World) (T : TypeId) (p : Option Addr) (n cap : Nat) (l : List α) (c : Chunk) : Prop := (c = [] ∧ SlT w0 p n k enc d0 l) ∨ OwnE enc k T p n cap l c
section
variable {α : Type} {enc : α → List Value} {k : Nat} {d0 : α} {w0 w : World} {T : TypeId} {p : Option Addr} {n cap : Nat} {l : List α} {c : Chunk} {cs : List Chunk}
theorem RowOf.slt (h : RowOf enc k d0 w0 T p n cap l c) (hk : ∀ x, (enc x).length = k) (hL : Vg.Loc [] w0 w cs) {i : Nat} (hi : cs[i]? = some c) : SlT w p n k enc d0 l := by
  rcases h with ⟨_, h⟩ | h
  · exact h.ext hL
  · exact h.slt hk hL hi
theorem RowOf.len (h : RowOf enc k d0 w0 T p n cap l c) : l.length = n := by
  rcases h with ⟨_, h⟩ | h
  · exact h.1
  · exact h.len
end
theorem says_there {S : List Leaf} {pt : Dig} (h1 : S.length ≤ 1) (h : (getL S pt).2 = true) : saysL pt S = (true, (getL S pt).1, false, Dig.zero, Dig.zero) := by
  match S, h1 with
  | [], _ => cases h
  | [x], _ =>
    by_cases hx : x.p = pt
    · simp [saysL, getL, hx]
    · simp [getL, hx] at h
theorem says_other {x : Leaf} {pt : Dig} (h : (getL [x] pt).2 = false) : saysL pt [x] = (false, Dig.zero, true, x.p, x.v) ∧ getL [x] pt = (Dig.zero, false) := by
  by_cases hx : x.p = pt
  · simp [getL, hx] at h
  · simp [saysL, getL, hx]
end Go.Vg
end

section
namespace Go.Proofs.YtcaffacganffjaaGreatDoor
open Go Go.Vg


set_option maxRecDepth 100000 in
set_option maxHeartbeats 4000000 in
theorem block_spec (h : Nat → UInt32) (bs : List UInt8) (p : Option Addr) (len cap : Nat) (h64 : len = 64) (w0 : World) (hK2 : Key2At w0) (hsl : SlB w0 p len bs) :
    Calls Tryz.prog 155 #[(Value.agg (arr32 8 h).toArray), (Value.slice p len cap)] w0 fun e w' => e = .returned (.agg (arr32 8 (mixF h (bufL bs))).toArray) ∧ Ext w0 w' := by
  refine c_enter (n := 214) (args := [(Value.agg (arr32 8 h).toArray), (Value.slice p len cap)]) Tryz.func155 rfl rfl (Nat.le_of_ble_eq_true rfl) rfl (fun a hT => ?_)
  simp only [List.zipIdx_cons, List.zipIdx_nil, List.map_cons, List.map_nil, Nat.reduceAdd] at hT
  have hL := Vg.Loc.refl [] w0
  have hst := hsl.t
  refine c_seq ?_
  refine c_region ?_
  refine l_do rfl ?_
  refine w_box hT hL (by decide) rfl (c := arr32 8 h) rfl ?_; clear hT hL; intro b1 a w1 hT hL hE hB
  refine l_do rfl ?_
  refine w_alloc hT hL (by decide) Tryz.ty189 ?_; clear hT hL; intro b2 a w2 hT hL hE hB
  refine l_end ?_
  refine then_norm ?_
  refine c_seq ?_
  refine c_region ?_
  refine l_do rfl ?_
  refine w_alloc hT hL (by decide) Tryz.ty235 ?_; clear hT hL; intro b3 a w3 hT hL hE hB
  refine l_end ?_
  refine then_norm ?_
  refine c_seq ?_
  refine c_seq ?_
  refine c_region ?_
  refine l_q hT (q_assign hT rfl) rfl rfl (by decide) ?_; clear hT; intro a hT
  refine l_end ?_
  refine then_norm ?_
  refine wp_block ?_
  refine c_loop (fun mz a wz => ∃ t : Nat, mz = 16 - t ∧ t ≤ 16 ∧ 0 ≤ t ∧ Tm 214 a [(1, (Value.slice p len cap)), (2, (vp b1 0)), (4, (vp b2 0)), (5, (vp b3 0)), (6, (vI (t : Int)))] ∧ Vg.Loc [] w0 wz [[(b3, ob (arr32 64 (sched (bufL bs) t)) 235)], [(b2, ob (arr32 8 (fun _ => 0)) 189)], [(b1, ob (arr32 8 h) 189)]]) id (16 - 0) ?_ ?_
  · exact ⟨0, rfl, by omega, by omega, hT.keep [1, 2, 4, 5, 6] rfl, hL⟩
  clear hT hL
  rintro mz a w4 ⟨t, rfl, ht, htl, hT, hL⟩
  refine c_seq ?_
  refine c_seq ?_
  refine c_region ?_
  refine l_q hT (q_move hT rfl) rfl rfl (by decide) ?_; clear hT; intro a hT
  refine l_q hT (q_lss hT rfl rfl) rfl rfl (by decide) ?_; clear hT; intro a hT
  refine l_end ?_
  refine then_norm ?_
  refine c_if hT rfl (fun hc1 => ?_) (fun hc1 => ?_)
  · skip
    have hc1 := of_decide_eq_true hc1
    refine wp_skip ?_
    refine then_norm ?_
    refine c_seq ?_
    refine wp_block ?_
    refine d_start' hL #[false, false, false, false, false, false, false, false, false, false, false, false, false, false, false, false, false, false, false, false, false, false, false, false, false, false, false, false, false, false, false, false, false, false, false, false] [35] rfl rfl rfl ?_; clear hL; intro w5 hL hE; have hR := hL; have hS := Ext.refl w5
    refine d_pure (i := 0) hT #[true, false, false, false, false, false, false, false, false, false, false, false, false, false, false, false, false, false, false, false, false, false, false, false, false, false, false, false, false, false, false, false, false, false, false, false] rfl (by kernel_rfl) rfl rfl (by decide) (fun _ _ _ h => h) (fun _ => q_move hT rfl) ?_; clear hT; intro a hT
    refine d_pure (i := 1) hT #[true, true, false, false, false, false, false, false, false, false, false, false, false, false, false, false, false, false, false, false, false, false, false, false, false, false, false, false, false, false, false, false, false, false, false, false] rfl (by kernel_rfl) rfl rfl (by decide) (fun _ _ _ h => h) (fun _ => q_move hT rfl) ?_; clear hT; intro a hT
    refine d_pure (i := 2) hT #[true, true, true, false, false, false, false, false, false, false, false, false, false, false, false, false, false, false, false, false, false, false, false, false, false, false, false, false, false, false, false, false, false, false, false, false] rfl (by kernel_rfl) rfl rfl (by decide) (fun _ _ _ h => h) (fun _ => q_move hT rfl) ?_; clear hT; intro a hT
    refine d_pure (i := 3) hT #[true, true, true, true, false, false, false, false, false, false, false, false, false, false, false, false, false, false, false, false, false, false, false, false, false, false, false, false, false, false, false, false, false, false, false, false] rfl (by kernel_rfl) rfl rfl (by decide) (fun _ _ _ h => h) (fun _ => (q_mulI hT rfl rfl (r := 4 * (t : Int)) rfl (by omega) (by omega)).v (v := vI ((4 * t : Nat) : Int)) (by congr 1)) ?_; clear hT; intro a hT
    obtain ⟨sb1, so1, hp1, hrd1⟩ := (hst).2 (by omega)
    refine d_pure (i := 4) hT #[true, true, true, true, true, false, false, false, false, false, false, false, false, false, false, false, false, false, false, false, false, false, false, false, false, false, false, false, false, false, false, false, false, false, false, false] rfl (by kernel_rfl) rfl rfl (by decide) (fun _ _ _ h => h) (fun _ => q_indexAddr (b := sb1) (off := so1) (len := len) (cap := cap) hT (by rw [← hp1]; rfl) rfl Tryz.sli154 (by omega) (by omega)) ?_; clear hT; intro a hT
    refine d_pure (i := 8) hT #[true, true, true, true, true, false, false, false, true, false, false, false, false, false, false, false, false, false, false, false, false, false, false, false, false, false, false, false, false, false, false, false, false, false, false, false] rfl (by kernel_rfl) rfl rfl (by decide) (fun _ _ _ h => h) (fun _ => q_move hT rfl) ?_; clear hT; intro a hT
    refine d_pure (i := 9) hT #[true, true, true, true, true, false, false, false, true, true, false, false, false, false, false, false, false, false, false, false, false, false, false, false, false, false, false, false, false, false, false, false, false, false, false, false] rfl (by kernel_rfl) rfl rfl (by decide) (fun _ _ _ h => h) (fun _ => q_move hT rfl) ?_; clear hT; intro a hT
    refine d_pure (i := 10) hT #[true, true, true, true, true, false, false, false, true, true, true, false, false, false, false, false, false, false, false, false, false, false, false, false, false, false, false, false, false, false, false, false, false, false, false, false] rfl (by kernel_rfl) rfl rfl (by decide) (fun _ _ _ h => h) (fun _ => (q_mulI hT rfl rfl (r := 4 * (t : Int)) rfl (by omega) (by omega)).v (v := vI ((4 * t : Nat) : Int)) (by congr 1)) ?_; clear hT; intro a hT
    refine d_pure (i := 11) hT #[true, true, true, true, true, false, false, false, true, true, true, true, false, false, false, false, false, false, false, false, false, false, false, false, false, false, false, false, false, false, false, false, false, false, false, false] rfl (by kernel_rfl) rfl rfl (by decide) (fun _ _ _ h => h) (fun _ => (q_addI hT rfl rfl (r := ((4 * t : Nat) : Int) + 1) rfl (by omega) (by omega)).v (v := vI ((4 * t + 1 : Nat) : Int)) (by congr 1)) ?_; clear hT; intro a hT
    obtain ⟨sb2, so2, hp2, hrd2⟩ := (hst).2 (by omega)
    refine d_pure (i := 12) hT #[true, true, true, true, true, false, false, false, true, true, true, true, true, false, false, false, false, false, false, false, false, false, false, false, false, false, false, false, false, false, false, false, false, false, false, false] rfl (by kernel_rfl) rfl rfl (by decide) (fun _ _ _ h => h) (fun _ => q_indexAddr (b := sb2) (off := so2) (len := len) (cap := cap) hT (by rw [← hp2]; rfl) rfl Tryz.sli154 (by omega) (by omega)) ?_; clear hT; intro a hT
    refine d_pure (i := 17) hT #[true, true, true, true, true, false, false, false, true, true, true, true, true, false, false, false, false, true, false, false, false, false, false, false, false, false, false, false, false, false, false, false, false, false, false, false] rfl (by kernel_rfl) rfl rfl (by decide) (fun _ _ _ h => h) (fun _ => q_move hT rfl) ?_; clear hT; intro a hT
    refine d_pure (i := 18) hT #[true, true, true, true, true, false, false, false, true, true, true, true, true, false, false, false, false, true, true, false, false, false, false, false, false, false, false, false, false, false, false, false, false, false, false, false] rfl (by kernel_rfl) rfl rfl (by decide) (fun _ _ _ h => h) (fun _ => q_move hT rfl) ?_; clear hT; intro a hT
    refine d_pure (i := 19) hT #[true, true, true, true, true, false, false, false, true, true, true, true, true, false, false, false, false, true, true, true, false, false, false, false, false, false, false, false, false, false, false, false, false, false, false, false] rfl (by kernel_rfl) rfl rfl (by decide) (fun _ _ _ h => h) (fun _ => (q_mulI hT rfl rfl (r := 4 * (t : Int)) rfl (by omega) (by omega)).v (v := vI ((4 * t : Nat) : Int)) (by congr 1)) ?_; clear hT; intro a hT
    refine d_pure (i := 20) hT #[true, true, true, true, true, false, false, false, true, true, true, true, true, false, false, false, false, true, true, true, true, false, false, false, false, false, false, false, false, false, false, false, false, false, false, false] rfl (by kernel_rfl) rfl rfl (by decide) (fun _ _ _ h => h) (fun _ => (q_addI hT rfl rfl (r := ((4 * t : Nat) : Int) + 2) rfl (by omega) (by omega)).v (v := vI ((4 * t + 2 : Nat) : Int)) (by congr 1)) ?_; clear hT; intro a hT
    obtain ⟨sb3, so3, hp3, hrd3⟩ := (hst).2 (by omega)
    refine d_pure (i := 21) hT #[true, true, true, true, true, false, false, false, true, true, true, true, true, false, false, false, false, true, true, true, true, true, false, false, false, false, false, false, false, false, false, false, false, false, false, false] rfl (by kernel_rfl) rfl rfl (by decide) (fun _ _ _ h => h) (fun _ => q_indexAddr (b := sb3) (off := so3) (len := len) (cap := cap) hT (by rw [← hp3]; rfl) rfl Tryz.sli154 (by omega) (by omega)) ?_; clear hT; intro a hT
    refine d_pure (i := 26) hT #[true, true, true, true, true, false, false, false, true, true, true, true, true, false, false, false, false, true, true, true, true, true, false, false, false, false, true, false, false, false, false, false, false, false, false, false] rfl (by kernel_rfl) rfl rfl (by decide) (fun _ _ _ h => h) (fun _ => q_move hT rfl) ?_; clear hT; intro a hT
    refine d_pure (i := 27) hT #[true, true, true, true, true, false, false, false, true, true, true, true, true, false, false, false, false, true, true, true, true, true, false, false, false, false, true, true, false, false, false, false, false, false, false, false] rfl (by kernel_rfl) rfl rfl (by decide) (fun _ _ _ h => h) (fun _ => q_move hT rfl) ?_; clear hT; intro a hT
    refine d_pure (i := 28) hT #[true, true, true, true, true, false, false, false, true, true, true, true, true, false, false, false, false, true, true, true, true, true, false, false, false, false, true, true, true, false, false, false, false, false, false, false] rfl (by kernel_rfl) rfl rfl (by decide) (fun _ _ _ h => h) (fun _ => (q_mulI hT rfl rfl (r := 4 * (t : Int)) rfl (by omega) (by omega)).v (v := vI ((4 * t : Nat) : Int)) (by congr 1)) ?_; clear hT; intro a hT
    refine d_pure (i := 29) hT #[true, true, true, true, true, false, false, false, true, true, true, true, true, false, false, false, false, true, true, true, true, true, false, false, false, false, true, true, true, true, false, false, false, false, false, false] rfl (by kernel_rfl) rfl rfl (by decide) (fun _ _ _ h => h) (fun _ => (q_addI hT rfl rfl (r := ((4 * t : Nat) : Int) + 3) rfl (by omega) (by omega)).v (v := vI ((4 * t + 3 : Nat) : Int)) (by congr 1)) ?_; clear hT; intro a hT
    obtain ⟨sb4, so4, hp4, hrd4⟩ := (hst).2 (by omega)
    refine d_pure (i := 30) hT #[true, true, true, true, true, false, false, false, true, true, true, true, true, false, false, false, false, true, true, true, true, true, false, false, false, false, true, true, true, true, true, false, false, false, false, false] rfl (by kernel_rfl) rfl rfl (by decide) (fun _ _ _ h => h) (fun _ => q_indexAddr (b := sb4) (off := so4) (len := len) (cap := cap) hT (by rw [← hp4]; rfl) rfl Tryz.sli154 (by omega) (by omega)) ?_; clear hT; intro a hT
    refine d_take (i := 5) hT #[true, true, true, true, true, true, false, false, true, true, true, true, true, false, false, false, false, true, true, true, true, true, false, false, false, false, true, true, true, true, true, false, false, false, false, false] rfl (by kernel_rfl) rfl rfl (by decide) (fun _ _ _ h => h) (fun _ hs => q_load hT rfl Tryz.ty5 (Rd.ext (Rd.loc (hrd1 (4 * t : Nat) (by omega)) hR (by simp)) hs)) hS ?_; clear hT; intro a hT
    refine d_pure (i := 6) hT #[true, true, true, true, true, true, true, false, true, true, true, true, true, false, false, false, false, true, true, true, true, true, false, false, false, false, true, true, true, true, true, false, false, false, false, false] rfl (by kernel_rfl) rfl rfl (by decide) (fun _ _ _ h => h) (fun _ => q_conv_8_32 hT rfl Tryz.underlying5 Tryz.underlying188) ?_; clear hT; intro a hT
    refine d_pure (i := 7) hT #[true, true, true, true, true, true, true, true, true, true, true, true, true, false, false, false, false, true, true, true, true, true, false, false, false, false, true, true, true, true, true, false, false, false, false, false] rfl (by kernel_rfl) rfl rfl (by decide) (fun _ _ _ h => h) (fun _ => q_shl32 (u := (bufL bs (4 * t : Nat)).toUInt32) (s := 24) hT rfl rfl (by omega)) ?_; clear hT; intro a hT
    refine d_take (i := 13) hT #[true, true, true, true, true, true, true, true, true, true, true, true, true, true, false, false, false, true, true, true, true, true, false, false, false, false, true, true, true, true, true, false, false, false, false, false] rfl (by kernel_rfl) rfl rfl (by decide) (fun _ _ _ h => h) (fun _ hs => q_load hT rfl Tryz.ty5 (Rd.ext (Rd.loc (hrd2 (4 * t + 1 : Nat) (by omega)) hR (by simp)) hs)) hS ?_; clear hT; intro a hT
    refine d_pure (i := 14) hT #[true, true, true, true, true, true, true, true, true, true, true, true, true, true, true, false, false, true, true, true, true, true, false, false, false, false, true, true, true, true, true, false, false, false, false, false] rfl (by kernel_rfl) rfl rfl (by decide) (fun _ _ _ h => h) (fun _ => q_conv_8_32 hT rfl Tryz.underlying5 Tryz.underlying188) ?_; clear hT; intro a hT
    refine d_pure (i := 15) hT #[true, true, true, true, true, true, true, true, true, true, true, true, true, true, true, true, false, true, true, true, true, true, false, false, false, false, true, true, true, true, true, false, false, false, false, false] rfl (by kernel_rfl) rfl rfl (by decide) (fun _ _ _ h => h) (fun _ => q_shl32 (u := (bufL bs (4 * t + 1 : Nat)).toUInt32) (s := 16) hT rfl rfl (by omega)) ?_; clear hT; intro a hT
    refine d_pure (i := 16) hT #[true, true, true, true, true, true, true, true, true, true, true, true, true, true, true, true, true, true, true, true, true, true, false, false, false, false, true, true, true, true, true, false, false, false, false, false] rfl (by kernel_rfl) rfl rfl (by decide) (fun _ _ _ h => h) (fun _ => q_add32 (u := shl32 ((bufL bs (4 * t : Nat)).toUInt32) 24) (v := shl32 ((bufL bs (4 * t + 1 : Nat)).toUInt32) 16) hT rfl rfl) ?_; clear hT; intro a hT
    refine d_take (i := 22) hT #[true, true, true, true, true, true, true, true, true, true, true, true, true, true, true, true, true, true, true, true, true, true, true, false, false, false, true, true, true, true, true, false, false, false, false, false] rfl (by kernel_rfl) rfl rfl (by decide) (fun _ _ _ h => h) (fun _ hs => q_load hT rfl Tryz.ty5 (Rd.ext (Rd.loc (hrd3 (4 * t + 2 : Nat) (by omega)) hR (by simp)) hs)) hS ?_; clear hT; intro a hT
    refine d_pure (i := 23) hT #[true, true, true, true, true, true, true, true, true, true, true, true, true, true, true, true, true, true, true, true, true, true, true, true, false, false, true, true, true, true, true, false, false, false, false, false] rfl (by kernel_rfl) rfl rfl (by decide) (fun _ _ _ h => h) (fun _ => q_conv_8_32 hT rfl Tryz.underlying5 Tryz.underlying188) ?_; clear hT; intro a hT
    refine d_pure (i := 24) hT #[true, true, true, true, true, true, true, true, true, true, true, true, true, true, true, true, true, true, true, true, true, true, true, true, true, false, true, true, true, true, true, false, false, false, false, false] rfl (by kernel_rfl) rfl rfl (by decide) (fun _ _ _ h => h) (fun _ => q_shl32 (u := (bufL bs (4 * t + 2 : Nat)).toUInt32) (s := 8) hT rfl rfl (by omega)) ?_; clear hT; intro a hT
    refine d_pure (i := 25) hT #[true, true, true, true, true, true, true, true, true, true, true, true, true, true, true, true, true, true, true, true, true, true, true, true, true, true, true, true, true, true, true, false, false, false, false, false] rfl (by kernel_rfl) rfl rfl (by decide) (fun _ _ _ h => h) (fun _ => q_add32 (u := (shl32 ((bufL bs (4 * t : Nat)).toUInt32) 24) + (shl32 ((bufL bs (4 * t + 1 : Nat)).toUInt32) 16)) (v := shl32 ((bufL bs (4 * t + 2 : Nat)).toUInt32) 8) hT rfl rfl) ?_; clear hT; intro a hT
    refine d_take (i := 31) hT #[true, true, true, true, true, true, true, true, true, true, true, true, true, true, true, true, true, true, true, true, true, true, true, true, true, true, true, true, true, true, true, true, false, false, false, false] rfl (by kernel_rfl) rfl rfl (by decide) (fun _ _ _ h => h) (fun _ hs => q_load hT rfl Tryz.ty5 (Rd.ext (Rd.loc (hrd4 (4 * t + 3 : Nat) (by omega)) hR (by simp)) hs)) hS ?_; clear hT; intro a hT
    refine d_pure (i := 32) hT #[true, true, true, true, true, true, true, true, true, true, true, true, true, true, true, true, true, true, true, true, true, true, true, true, true, true, true, true, true, true, true, true, true, false, false, false] rfl (by kernel_rfl) rfl rfl (by decide) (fun _ _ _ h => h) (fun _ => q_conv_8_32 hT rfl Tryz.underlying5 Tryz.underlying188) ?_; clear hT; intro a hT
    refine d_pure (i := 33) hT #[true, true, true, true, true, true, true, true, true, true, true, true, true, true, true, true, true, true, true, true, true, true, true, true, true, true, true, true, true, true, true, true, true, true, false, false] rfl (by kernel_rfl) rfl rfl (by decide) (fun _ _ _ h => h) (fun _ => q_add32 (u := ((shl32 ((bufL bs (4 * t : Nat)).toUInt32) 24) + (shl32 ((bufL bs (4 * t + 1 : Nat)).toUInt32) 16)) + (shl32 ((bufL bs (4 * t + 2 : Nat)).toUInt32) 8)) (v := (bufL bs (4 * t + 3 : Nat)).toUInt32) hT rfl rfl) ?_; clear hT; intro a hT
    refine d_pure (i := 34) hT #[true, true, true, true, true, true, true, true, true, true, true, true, true, true, true, true, true, true, true, true, true, true, true, true, true, true, true, true, true, true, true, true, true, true, true, false] rfl (by kernel_rfl) rfl rfl (by decide) (fun _ _ _ h => h) (fun _ => (q_indexAddr_arr hT rfl rfl Tryz.arr235 (by omega) (by omega)).v (v := vp b3 (0 + t)) (by simp)) ?_; clear hT; intro a hT
    refine d_one (i := 35) hT #[true, true, true, true, true, true, true, true, true, true, true, true, true, true, true, true, true, true, true, true, true, true, true, true, true, true, true, true, true, true, true, true, true, true, true, true] rfl (by kernel_rfl) rfl ?_
    refine w_store hT hL 0 (c := arr32 64 (sched (bufL bs) t)) rfl rfl Tryz.ty188 rfl (vs := [(v32 ((((shl32 ((bufL bs (4 * t : Nat)).toUInt32) 24) + (shl32 ((bufL bs (4 * t + 1 : Nat)).toUInt32) 16)) + (shl32 ((bufL bs (4 * t + 2 : Nat)).toUInt32) 8)) + ((bufL bs (4 * t + 3 : Nat)).toUInt32)))]) rfl rfl (by simp [arr32_len, arr8_len, digC_len]; omega) rfl (c' := arr32 64 (upd (sched (bufL bs) t) t ((((shl32 ((bufL bs (4 * t : Nat)).toUInt32) 24) + (shl32 ((bufL bs (4 * t + 1 : Nat)).toUInt32) 16)) + (shl32 ((bufL bs (4 * t + 2 : Nat)).toUInt32) 8)) + ((bufL bs (4 * t + 3 : Nat)).toUInt32)))) (lay_at (pre := []) (mid := arr32 64 (sched (bufL bs) t)) (post := []) (i := t) (by simp [digC_arr]) (by simp [arr32_len, arr8_len, digC_len]) (by simp [arr32_len, arr8_len, digC_len]; omega) (lay_arr32 _ _ (by omega)) (by simp)) ?_; clear hL; intro w6 hL hE
    replace hL : Vg.Loc [] w0 w6 ([[(b3, ob (arr32 64 (upd (sched (bufL bs) t) t ((((shl32 ((bufL bs (4 * t : Nat)).toUInt32) 24) + (shl32 ((bufL bs (4 * t + 1 : Nat)).toUInt32) 16)) + (shl32 ((bufL bs (4 * t + 2 : Nat)).toUInt32) 8)) + ((bufL bs (4 * t + 3 : Nat)).toUInt32)))) 235)], [(b2, ob (arr32 8 (fun _ => 0)) 189)], [(b1, ob (arr32 8 h) 189)]]) := hL
    refine ⟨fun hn => absurd (by decide) hn, ?_⟩
    refine d_done (by kernel_rfl) ?_; clear hR hS
    refine blk_norm ?_
    refine then_norm ?_
    refine c_region ?_
    refine l_q hT (q_move hT rfl) rfl rfl (by decide) ?_; clear hT; intro a hT
    refine l_q hT (q_addI hT rfl rfl (r := (t : Int) + 1) rfl (by omega) (by omega)) rfl rfl (by decide) ?_; clear hT; intro a hT
    refine l_q hT (q_assign hT rfl) rfl rfl (by decide) ?_; clear hT; intro a hT
    refine l_end ?_
    refine then_norm ?_
    exact ⟨_, ⟨t + 1, rfl, by omega, by omega, hT.keep [1, 2, 4, 5, 6] rfl, by rw [← sched_lo2 (bufL bs) t (by omega)]; exact hL⟩, by simp only [id]; omega⟩
  · skip
    have hc1 := of_decide_eq_false hc1
    obtain rfl : t = 16 := by omega
    refine wp_exit ?_
    refine then_exit ?_
    refine then_exit ?_
    refine blk_exit ?_
    refine then_norm ?_
    refine c_seq ?_
    refine c_seq ?_
    refine c_region ?_
    refine l_q hT (q_assign hT rfl) rfl rfl (by decide) ?_; clear hT; intro a hT
    refine l_end ?_
    refine then_norm ?_
    refine wp_block ?_
    refine c_loop (fun mz a wz => ∃ t : Nat, mz = 64 - t ∧ t ≤ 64 ∧ 16 ≤ t ∧ Tm 214 a [(2, (vp b1 0)), (4, (vp b2 0)), (5, (vp b3 0)), (7, (vI (t : Int)))] ∧ Vg.Loc [] w0 wz [[(b3, ob (arr32 64 (sched (bufL bs) t)) 235)], [(b2, ob (arr32 8 (fun _ => 0)) 189)], [(b1, ob (arr32 8 h) 189)]]) id (64 - 16) ?_ ?_
    · exact ⟨16, rfl, by omega, by omega, hT.keep [2, 4, 5, 7] rfl, hL⟩
    clear hT hL
    rintro mz a w7 ⟨t, rfl, ht, htl, hT, hL⟩
    refine c_seq ?_
    refine c_seq ?_
    refine c_region ?_
    refine l_q hT (q_move hT rfl) rfl rfl (by decide) ?_; clear hT; intro a hT
    refine l_q hT (q_lss hT rfl rfl) rfl rfl (by decide) ?_; clear hT; intro a hT
    refine l_end ?_
    refine then_norm ?_
    refine c_if hT rfl (fun hc2 => ?_) (fun hc2 => ?_)
    · skip
      have hc2 := of_decide_eq_true hc2
      refine wp_skip ?_
      refine then_norm ?_
      refine c_seq ?_
      refine wp_block ?_
      refine c_seq ?_
      refine d_start' hL #[false, false, false, false, false, false, false, false, false, false, false, false, false, false, false, false, false, false] [] rfl rfl rfl ?_; clear hL; intro w8 hL hE; have hR := hL; have hS := Ext.refl w8
      refine d_pure (i := 0) hT #[true, false, false, false, false, false, false, false, false, false, false, false, false, false, false, false, false, false] rfl (by kernel_rfl) rfl rfl (by decide) (fun _ _ _ h => h) (fun _ => q_move hT rfl) ?_; clear hT; intro a hT
      refine d_pure (i := 1) hT #[true, true, false, false, false, false, false, false, false, false, false, false, false, false, false, false, false, false] rfl (by kernel_rfl) rfl rfl (by decide) (fun _ _ _ h => h) (fun _ => (q_subI hT rfl rfl (r := (t : Int) - 15) rfl (by omega) (by omega)).v (v := vI ((t - 15 : Nat) : Int)) (by congr 1; omega)) ?_; clear hT; intro a hT
      refine d_pure (i := 2) hT #[true, true, true, false, false, false, false, false, false, false, false, false, false, false, false, false, false, false] rfl (by kernel_rfl) rfl rfl (by decide) (fun _ _ _ h => h) (fun _ => (q_indexAddr_arr hT rfl rfl Tryz.arr235 (by omega) (by omega)).v (v := vp b3 (0 + (t - 15 : Nat))) (by simp)) ?_; clear hT; intro a hT
      refine d_pure (i := 5) hT #[true, true, true, false, false, true, false, false, false, false, false, false, false, false, false, false, false, false] rfl (by kernel_rfl) rfl rfl (by decide) (fun _ _ _ h => h) (fun _ => q_move hT rfl) ?_; clear hT; intro a hT
      refine d_pure (i := 6) hT #[true, true, true, false, false, true, true, false, false, false, false, false, false, false, false, false, false, false] rfl (by kernel_rfl) rfl rfl (by decide) (fun _ _ _ h => h) (fun _ => (q_subI hT rfl rfl (r := (t : Int) - 15) rfl (by omega) (by omega)).v (v := vI ((t - 15 : Nat) : Int)) (by congr 1; omega)) ?_; clear hT; intro a hT
      refine d_pure (i := 7) hT #[true, true, true, false, false, true, true, true, false, false, false, false, false, false, false, false, false, false] rfl (by kernel_rfl) rfl rfl (by decide) (fun _ _ _ h => h) (fun _ => (q_indexAddr_arr hT rfl rfl Tryz.arr235 (by omega) (by omega)).v (v := vp b3 (0 + (t - 15 : Nat))) (by simp)) ?_; clear hT; intro a hT
      refine d_pure (i := 11) hT #[true, true, true, false, false, true, true, true, false, false, false, true, false, false, false, false, false, false] rfl (by kernel_rfl) rfl rfl (by decide) (fun _ _ _ h => h) (fun _ => q_move hT rfl) ?_; clear hT; intro a hT
      refine d_pure (i := 12) hT #[true, true, true, false, false, true, true, true, false, false, false, true, true, false, false, false, false, false] rfl (by kernel_rfl) rfl rfl (by decide) (fun _ _ _ h => h) (fun _ => (q_subI hT rfl rfl (r := (t : Int) - 15) rfl (by omega) (by omega)).v (v := vI ((t - 15 : Nat) : Int)) (by congr 1; omega)) ?_; clear hT; intro a hT
      refine d_pure (i := 13) hT #[true, true, true, false, false, true, true, true, false, false, false, true, true, true, false, false, false, false] rfl (by kernel_rfl) rfl rfl (by decide) (fun _ _ _ h => h) (fun _ => (q_indexAddr_arr hT rfl rfl Tryz.arr235 (by omega) (by omega)).v (v := vp b3 (0 + (t - 15 : Nat))) (by simp)) ?_; clear hT; intro a hT
      refine d_take (i := 3) hT #[true, true, true, true, false, true, true, true, false, false, false, true, true, true, false, false, false, false] rfl (by kernel_rfl) rfl rfl (by decide) (fun _ _ _ h => h) (fun _ hs => q_load hT rfl Tryz.ty188 (Rd.ext (Rd.at32 (hR.rd 0 rfl 0 (ds := arr32 64 (sched (bufL bs) t)) rfl) (i := (t - 15 : Nat)) (by omega)) hs)) hS ?_; clear hT; intro a hT
      refine d_take (i := 8) hT #[true, true, true, true, false, true, true, true, true, false, false, true, true, true, false, false, false, false] rfl (by kernel_rfl) rfl rfl (by decide) (fun _ _ _ h => h) (fun _ hs => q_load hT rfl Tryz.ty188 (Rd.ext (Rd.at32 (hR.rd 0 rfl 0 (ds := arr32 64 (sched (bufL bs) t)) rfl) (i := (t - 15 : Nat)) (by omega)) hs)) hS ?_; clear hT; intro a hT
      refine d_take (i := 14) hT #[true, true, true, true, false, true, true, true, true, false, false, true, true, true, true, false, false, false] rfl (by kernel_rfl) rfl rfl (by decide) (fun _ _ _ h => h) (fun _ hs => q_load hT rfl Tryz.ty188 (Rd.ext (Rd.at32 (hR.rd 0 rfl 0 (ds := arr32 64 (sched (bufL bs) t)) rfl) (i := (t - 15 : Nat)) (by omega)) hs)) hS ?_; clear hT; intro a hT
      refine d_pure (i := 15) hT #[true, true, true, true, false, true, true, true, true, false, false, true, true, true, true, true, false, false] rfl (by kernel_rfl) rfl rfl (by decide) (fun _ _ _ h => h) (fun _ => q_shr32 (u := (sched (bufL bs) t) (t - 15 : Nat)) (s := 3) hT rfl rfl (by omega)) ?_; clear hT; intro a hT
      refine d_one (i := 4) hT #[true, true, true, true, true, true, true, true, true, false, false, true, true, true, true, true, false, false] rfl (by kernel_rfl) rfl ?_
      refine w_callT (xs := [.tmp 63, .const (.int .i64 7)]) hT rfl (vs := [(v32 ((sched (bufL bs) t) (t - 15 : Nat))), (vI 7)]) rfl (args := #[(v32 ((sched (bufL bs) t) (t - 15 : Nat))), (vI 7)]) rfl Tryz.func182 rfl rfl (by decide) ((turned_spec ((sched (bufL bs) t) (t - 15 : Nat)) 7 (by omega) _).mono ?_)
      rintro e w9 ⟨rfl, hX⟩
      refine ⟨_, rfl, ?_⟩; clear hT; intro a hT; replace hT : Tm 214 a ((64, (v32 (rotl ((sched (bufL bs) t) (t - 15 : Nat)) 25))) :: _) := hT
      replace hL := hL.ext hX
      replace hS := Vg.Loc.ext hS hX; refine ⟨fun _ => hS, ?_⟩
      refine d_one (i := 9) hT #[true, true, true, true, true, true, true, true, true, true, false, true, true, true, true, true, false, false] rfl (by kernel_rfl) rfl ?_
      refine w_callT (xs := [.tmp 68, .const (.int .i64 18)]) hT rfl (vs := [(v32 ((sched (bufL bs) t) (t - 15 : Nat))), (vI 18)]) rfl (args := #[(v32 ((sched (bufL bs) t) (t - 15 : Nat))), (vI 18)]) rfl Tryz.func182 rfl rfl (by decide) ((turned_spec ((sched (bufL bs) t) (t - 15 : Nat)) 18 (by omega) _).mono ?_)
      rintro e w10 ⟨rfl, hX⟩
      refine ⟨_, rfl, ?_⟩; clear hT; intro a hT; replace hT : Tm 214 a ((69, (v32 (rotl ((sched (bufL bs) t) (t - 15 : Nat)) 14))) :: _) := hT
      replace hL := hL.ext hX
      replace hS := Vg.Loc.ext hS hX; refine ⟨fun _ => hS, ?_⟩
      refine d_pure (i := 10) hT #[true, true, true, true, true, true, true, true, true, true, true, true, true, true, true, true, false, false] rfl (by kernel_rfl) rfl rfl (by decide) (fun _ _ _ h => h) (fun _ => q_xor32 (u := rotl ((sched (bufL bs) t) (t - 15 : Nat)) 25) (v := rotl ((sched (bufL bs) t) (t - 15 : Nat)) 14) hT rfl rfl) ?_; clear hT; intro a hT
      refine d_pure (i := 16) hT #[true, true, true, true, true, true, true, true, true, true, true, true, true, true, true, true, true, false] rfl (by kernel_rfl) rfl rfl (by decide) (fun _ _ _ h => h) (fun _ => q_xor32 (u := (rotl ((sched (bufL bs) t) (t - 15 : Nat)) 25) ^^^ (rotl ((sched (bufL bs) t) (t - 15 : Nat)) 14)) (v := shr32 ((sched (bufL bs) t) (t - 15 : Nat)) 3) hT rfl rfl) ?_; clear hT; intro a hT
      refine d_pure (i := 17) hT #[true, true, true, true, true, true, true, true, true, true, true, true, true, true, true, true, true, true] rfl (by kernel_rfl) rfl rfl (by decide) (fun _ _ _ h => h) (fun _ => q_assign hT rfl) ?_; clear hT; intro a hT
      refine d_done (by kernel_rfl) ?_; clear hR hS
      refine then_norm ?_
      refine c_seq ?_
      refine d_start' hL #[false, false, false, false, false, false, false, false, false, false, false, false, false, false, false, false, false, false] [] rfl rfl rfl ?_; clear hL; intro w11 hL hE; have hR := hL; have hS := Ext.refl w11
      refine d_pure (i := 0) hT #[true, false, false, false, false, false, false, false, false, false, false, false, false, false, false, false, false, false] rfl (by kernel_rfl) rfl rfl (by decide) (fun _ _ _ h => h) (fun _ => q_move hT rfl) ?_; clear hT; intro a hT
      refine d_pure (i := 1) hT #[true, true, false, false, false, false, false, false, false, false, false, false, false, false, false, false, false, false] rfl (by kernel_rfl) rfl rfl (by decide) (fun _ _ _ h => h) (fun _ => (q_subI hT rfl rfl (r := (t : Int) - 2) rfl (by omega) (by omega)).v (v := vI ((t - 2 : Nat) : Int)) (by congr 1; omega)) ?_; clear hT; intro a hT
      refine d_pure (i := 2) hT #[true, true, true, false, false, false, false, false, false, false, false, false, false, false, false, false, false, false] rfl (by kernel_rfl) rfl rfl (by decide) (fun _ _ _ h => h) (fun _ => (q_indexAddr_arr hT rfl rfl Tryz.arr235 (by omega) (by omega)).v (v := vp b3 (0 + (t - 2 : Nat))) (by simp)) ?_; clear hT; intro a hT
      refine d_pure (i := 5) hT #[true, true, true, false, false, true, false, false, false, false, false, false, false, false, false, false, false, false] rfl (by kernel_rfl) rfl rfl (by decide) (fun _ _ _ h => h) (fun _ => q_move hT rfl) ?_; clear hT; intro a hT
      refine d_pure (i := 6) hT #[true, true, true, false, false, true, true, false, false, false, false, false, false, false, false, false, false, false] rfl (by kernel_rfl) rfl rfl (by decide) (fun _ _ _ h => h) (fun _ => (q_subI hT rfl rfl (r := (t : Int) - 2) rfl (by omega) (by omega)).v (v := vI ((t - 2 : Nat) : Int)) (by congr 1; omega)) ?_; clear hT; intro a hT
      refine d_pure (i := 7) hT #[true, true, true, false, false, true, true, true, false, false, false, false, false, false, false, false, false, false] rfl (by kernel_rfl) rfl rfl (by decide) (fun _ _ _ h => h) (fun _ => (q_indexAddr_arr hT rfl rfl Tryz.arr235 (by omega) (by omega)).v (v := vp b3 (0 + (t - 2 : Nat))) (by simp)) ?_; clear hT; intro a hT
      refine d_pure (i := 11) hT #[true, true, true, false, false, true, true, true, false, false, false, true, false, false, false, false, false, false] rfl (by kernel_rfl) rfl rfl (by decide) (fun _ _ _ h => h) (fun _ => q_move hT rfl) ?_; clear hT; intro a hT
      refine d_pure (i := 12) hT #[true, true, true, false, false, true, true, true, false, false, false, true, true, false, false, false, false, false] rfl (by kernel_rfl) rfl rfl (by decide) (fun _ _ _ h => h) (fun _ => (q_subI hT rfl rfl (r := (t : Int) - 2) rfl (by omega) (by omega)).v (v := vI ((t - 2 : Nat) : Int)) (by congr 1; omega)) ?_; clear hT; intro a hT
      refine d_pure (i := 13) hT #[true, true, true, false, false, true, true, true, false, false, false, true, true, true, false, false, false, false] rfl (by kernel_rfl) rfl rfl (by decide) (fun _ _ _ h => h) (fun _ => (q_indexAddr_arr hT rfl rfl Tryz.arr235 (by omega) (by omega)).v (v := vp b3 (0 + (t - 2 : Nat))) (by simp)) ?_; clear hT; intro a hT
      refine d_take (i := 3) hT #[true, true, true, true, false, true, true, true, false, false, false, true, true, true, false, false, false, false] rfl (by kernel_rfl) rfl rfl (by decide) (fun _ _ _ h => h) (fun _ hs => q_load hT rfl Tryz.ty188 (Rd.ext (Rd.at32 (hR.rd 0 rfl 0 (ds := arr32 64 (sched (bufL bs) t)) rfl) (i := (t - 2 : Nat)) (by omega)) hs)) hS ?_; clear hT; intro a hT
      refine d_take (i := 8) hT #[true, true, true, true, false, true, true, true, true, false, false, true, true, true, false, false, false, false] rfl (by kernel_rfl) rfl rfl (by decide) (fun _ _ _ h => h) (fun _ hs => q_load hT rfl Tryz.ty188 (Rd.ext (Rd.at32 (hR.rd 0 rfl 0 (ds := arr32 64 (sched (bufL bs) t)) rfl) (i := (t - 2 : Nat)) (by omega)) hs)) hS ?_; clear hT; intro a hT
      refine d_take (i := 14) hT #[true, true, true, true, false, true, true, true, true, false, false, true, true, true, true, false, false, false] rfl (by kernel_rfl) rfl rfl (by decide) (fun _ _ _ h => h) (fun _ hs => q_load hT rfl Tryz.ty188 (Rd.ext (Rd.at32 (hR.rd 0 rfl 0 (ds := arr32 64 (sched (bufL bs) t)) rfl) (i := (t - 2 : Nat)) (by omega)) hs)) hS ?_; clear hT; intro a hT
      refine d_pure (i := 15) hT #[true, true, true, true, false, true, true, true, true, false, false, true, true, true, true, true, false, false] rfl (by kernel_rfl) rfl rfl (by decide) (fun _ _ _ h => h) (fun _ => q_shr32 (u := (sched (bufL bs) t) (t - 2 : Nat)) (s := 10) hT rfl rfl (by omega)) ?_; clear hT; intro a hT
      refine d_one (i := 4) hT #[true, true, true, true, true, true, true, true, true, false, false, true, true, true, true, true, false, false] rfl (by kernel_rfl) rfl ?_
      refine w_callT (xs := [.tmp 80, .const (.int .i64 17)]) hT rfl (vs := [(v32 ((sched (bufL bs) t) (t - 2 : Nat))), (vI 17)]) rfl (args := #[(v32 ((sched (bufL bs) t) (t - 2 : Nat))), (vI 17)]) rfl Tryz.func182 rfl rfl (by decide) ((turned_spec ((sched (bufL bs) t) (t - 2 : Nat)) 17 (by omega) _).mono ?_)
      rintro e w12 ⟨rfl, hX⟩
      refine ⟨_, rfl, ?_⟩; clear hT; intro a hT; replace hT : Tm 214 a ((81, (v32 (rotl ((sched (bufL bs) t) (t - 2 : Nat)) 15))) :: _) := hT
      replace hL := hL.ext hX
      replace hS := Vg.Loc.ext hS hX; refine ⟨fun _ => hS, ?_⟩
      refine d_one (i := 9) hT #[true, true, true, true, true, true, true, true, true, true, false, true, true, true, true, true, false, false] rfl (by kernel_rfl) rfl ?_
      refine w_callT (xs := [.tmp 85, .const (.int .i64 19)]) hT rfl (vs := [(v32 ((sched (bufL bs) t) (t - 2 : Nat))), (vI 19)]) rfl (args := #[(v32 ((sched (bufL bs) t) (t - 2 : Nat))), (vI 19)]) rfl Tryz.func182 rfl rfl (by decide) ((turned_spec ((sched (bufL bs) t) (t - 2 : Nat)) 19 (by omega) _).mono ?_)
      rintro e w13 ⟨rfl, hX⟩
      refine ⟨_, rfl, ?_⟩; clear hT; intro a hT; replace hT : Tm 214 a ((86, (v32 (rotl ((sched (bufL bs) t) (t - 2 : Nat)) 13))) :: _) := hT
      replace hL := hL.ext hX
      replace hS := Vg.Loc.ext hS hX; refine ⟨fun _ => hS, ?_⟩
      refine d_pure (i := 10) hT #[true, true, true, true, true, true, true, true, true, true, true, true, true, true, true, true, false, false] rfl (by kernel_rfl) rfl rfl (by decide) (fun _ _ _ h => h) (fun _ => q_xor32 (u := rotl ((sched (bufL bs) t) (t - 2 : Nat)) 15) (v := rotl ((sched (bufL bs) t) (t - 2 : Nat)) 13) hT rfl rfl) ?_; clear hT; intro a hT
      refine d_pure (i := 16) hT #[true, true, true, true, true, true, true, true, true, true, true, true, true, true, true, true, true, false] rfl (by kernel_rfl) rfl rfl (by decide) (fun _ _ _ h => h) (fun _ => q_xor32 (u := (rotl ((sched (bufL bs) t) (t - 2 : Nat)) 15) ^^^ (rotl ((sched (bufL bs) t) (t - 2 : Nat)) 13)) (v := shr32 ((sched (bufL bs) t) (t - 2 : Nat)) 10) hT rfl rfl) ?_; clear hT; intro a hT
      refine d_pure (i := 17) hT #[true, true, true, true, true, true, true, true, true, true, true, true, true, true, true, true, true, true] rfl (by kernel_rfl) rfl rfl (by decide) (fun _ _ _ h => h) (fun _ => q_assign hT rfl) ?_; clear hT; intro a hT
      refine d_done (by kernel_rfl) ?_; clear hR hS
      refine then_norm ?_
      refine d_start' hL #[false, false, false, false, false, false, false, false, false, false, false, false, false, false, false, false] [15] rfl rfl rfl ?_; clear hL; intro w14 hL hE; have hR := hL; have hS := Ext.refl w14
      refine d_pure (i := 0) hT #[true, false, false, false, false, false, false, false, false, false, false, false, false, false, false, false] rfl (by kernel_rfl) rfl rfl (by decide) (fun _ _ _ h => h) (fun _ => q_move hT rfl) ?_; clear hT; intro a hT
      refine d_pure (i := 1) hT #[true, true, false, false, false, false, false, false, false, false, false, false, false, false, false, false] rfl (by kernel_rfl) rfl rfl (by decide) (fun _ _ _ h => h) (fun _ => q_move hT rfl) ?_; clear hT; intro a hT
      refine d_pure (i := 2) hT #[true, true, true, false, false, false, false, false, false, false, false, false, false, false, false, false] rfl (by kernel_rfl) rfl rfl (by decide) (fun _ _ _ h => h) (fun _ => q_move hT rfl) ?_; clear hT; intro a hT
      refine d_pure (i := 3) hT #[true, true, true, true, false, false, false, false, false, false, false, false, false, false, false, false] rfl (by kernel_rfl) rfl rfl (by decide) (fun _ _ _ h => h) (fun _ => (q_subI hT rfl rfl (r := (t : Int) - 7) rfl (by omega) (by omega)).v (v := vI ((t - 7 : Nat) : Int)) (by congr 1; omega)) ?_; clear hT; intro a hT
      refine d_pure (i := 4) hT #[true, true, true, true, true, false, false, false, false, false, false, false, false, false, false, false] rfl (by kernel_rfl) rfl rfl (by decide) (fun _ _ _ h => h) (fun _ => (q_indexAddr_arr hT rfl rfl Tryz.arr235 (by omega) (by omega)).v (v := vp b3 (0 + (t - 7 : Nat))) (by simp)) ?_; clear hT; intro a hT
      refine d_pure (i := 7) hT #[true, true, true, true, true, false, false, true, false, false, false, false, false, false, false, false] rfl (by kernel_rfl) rfl rfl (by decide) (fun _ _ _ h => h) (fun _ => q_move hT rfl) ?_; clear hT; intro a hT
      refine d_pure (i := 9) hT #[true, true, true, true, true, false, false, true, false, true, false, false, false, false, false, false] rfl (by kernel_rfl) rfl rfl (by decide) (fun _ _ _ h => h) (fun _ => q_move hT rfl) ?_; clear hT; intro a hT
      refine d_pure (i := 10) hT #[true, true, true, true, true, false, false, true, false, true, true, false, false, false, false, false] rfl (by kernel_rfl) rfl rfl (by decide) (fun _ _ _ h => h) (fun _ => (q_subI hT rfl rfl (r := (t : Int) - 16) rfl (by omega) (by omega)).v (v := vI ((t - 16 : Nat) : Int)) (by congr 1; omega)) ?_; clear hT; intro a hT
      refine d_pure (i := 11) hT #[true, true, true, true, true, false, false, true, false, true, true, true, false, false, false, false] rfl (by kernel_rfl) rfl rfl (by decide) (fun _ _ _ h => h) (fun _ => (q_indexAddr_arr hT rfl rfl Tryz.arr235 (by omega) (by omega)).v (v := vp b3 (0 + (t - 16 : Nat))) (by simp)) ?_; clear hT; intro a hT
      refine d_take (i := 5) hT #[true, true, true, true, true, true, false, true, false, true, true, true, false, false, false, false] rfl (by kernel_rfl) rfl rfl (by decide) (fun _ _ _ h => h) (fun _ hs => q_load hT rfl Tryz.ty188 (Rd.ext (Rd.at32 (hR.rd 0 rfl 0 (ds := arr32 64 (sched (bufL bs) t)) rfl) (i := (t - 7 : Nat)) (by omega)) hs)) hS ?_; clear hT; intro a hT
      refine d_pure (i := 6) hT #[true, true, true, true, true, true, true, true, false, true, true, true, false, false, false, false] rfl (by kernel_rfl) rfl rfl (by decide) (fun _ _ _ h => h) (fun _ => q_add32 (u := ((rotl ((sched (bufL bs) t) (t - 2 : Nat)) 15) ^^^ (rotl ((sched (bufL bs) t) (t - 2 : Nat)) 13)) ^^^ (shr32 ((sched (bufL bs) t) (t - 2 : Nat)) 10)) (v := (sched (bufL bs) t) (t - 7 : Nat)) hT rfl rfl) ?_; clear hT; intro a hT
      refine d_pure (i := 8) hT #[true, true, true, true, true, true, true, true, true, true, true, true, false, false, false, false] rfl (by kernel_rfl) rfl rfl (by decide) (fun _ _ _ h => h) (fun _ => q_add32 (u := (((rotl ((sched (bufL bs) t) (t - 2 : Nat)) 15) ^^^ (rotl ((sched (bufL bs) t) (t - 2 : Nat)) 13)) ^^^ (shr32 ((sched (bufL bs) t) (t - 2 : Nat)) 10)) + ((sched (bufL bs) t) (t - 7 : Nat))) (v := ((rotl ((sched (bufL bs) t) (t - 15 : Nat)) 25) ^^^ (rotl ((sched (bufL bs) t) (t - 15 : Nat)) 14)) ^^^ (shr32 ((sched (bufL bs) t) (t - 15 : Nat)) 3)) hT rfl rfl) ?_; clear hT; intro a hT
      refine d_take (i := 12) hT #[true, true, true, true, true, true, true, true, true, true, true, true, true, false, false, false] rfl (by kernel_rfl) rfl rfl (by decide) (fun _ _ _ h => h) (fun _ hs => q_load hT rfl Tryz.ty188 (Rd.ext (Rd.at32 (hR.rd 0 rfl 0 (ds := arr32 64 (sched (bufL bs) t)) rfl) (i := (t - 16 : Nat)) (by omega)) hs)) hS ?_; clear hT; intro a hT
      refine d_pure (i := 13) hT #[true, true, true, true, true, true, true, true, true, true, true, true, true, true, false, false] rfl (by kernel_rfl) rfl rfl (by decide) (fun _ _ _ h => h) (fun _ => q_add32 (u := ((((rotl ((sched (bufL bs) t) (t - 2 : Nat)) 15) ^^^ (rotl ((sched (bufL bs) t) (t - 2 : Nat)) 13)) ^^^ (shr32 ((sched (bufL bs) t) (t - 2 : Nat)) 10)) + ((sched (bufL bs) t) (t - 7 : Nat))) + (((rotl ((sched (bufL bs) t) (t - 15 : Nat)) 25) ^^^ (rotl ((sched (bufL bs) t) (t - 15 : Nat)) 14)) ^^^ (shr32 ((sched (bufL bs) t) (t - 15 : Nat)) 3))) (v := (sched (bufL bs) t) (t - 16 : Nat)) hT rfl rfl) ?_; clear hT; intro a hT
      refine d_pure (i := 14) hT #[true, true, true, true, true, true, true, true, true, true, true, true, true, true, true, false] rfl (by kernel_rfl) rfl rfl (by decide) (fun _ _ _ h => h) (fun _ => (q_indexAddr_arr hT rfl rfl Tryz.arr235 (by omega) (by omega)).v (v := vp b3 (0 + t)) (by simp)) ?_; clear hT; intro a hT
      refine d_one (i := 15) hT #[true, true, true, true, true, true, true, true, true, true, true, true, true, true, true, true] rfl (by kernel_rfl) rfl ?_
      refine w_store hT hL 0 (c := arr32 64 (sched (bufL bs) t)) rfl rfl Tryz.ty188 rfl (vs := [(v32 ((((((rotl ((sched (bufL bs) t) (t - 2 : Nat)) 15) ^^^ (rotl ((sched (bufL bs) t) (t - 2 : Nat)) 13)) ^^^ (shr32 ((sched (bufL bs) t) (t - 2 : Nat)) 10)) + ((sched (bufL bs) t) (t - 7 : Nat))) + (((rotl ((sched (bufL bs) t) (t - 15 : Nat)) 25) ^^^ (rotl ((sched (bufL bs) t) (t - 15 : Nat)) 14)) ^^^ (shr32 ((sched (bufL bs) t) (t - 15 : Nat)) 3))) + ((sched (bufL bs) t) (t - 16 : Nat))))]) rfl rfl (by simp [arr32_len, arr8_len, digC_len]; omega) rfl (c' := arr32 64 (upd (sched (bufL bs) t) t ((((((rotl ((sched (bufL bs) t) (t - 2 : Nat)) 15) ^^^ (rotl ((sched (bufL bs) t) (t - 2 : Nat)) 13)) ^^^ (shr32 ((sched (bufL bs) t) (t - 2 : Nat)) 10)) + ((sched (bufL bs) t) (t - 7 : Nat))) + (((rotl ((sched (bufL bs) t) (t - 15 : Nat)) 25) ^^^ (rotl ((sched (bufL bs) t) (t - 15 : Nat)) 14)) ^^^ (shr32 ((sched (bufL bs) t) (t - 15 : Nat)) 3))) + ((sched (bufL bs) t) (t - 16 : Nat))))) (lay_at (pre := []) (mid := arr32 64 (sched (bufL bs) t)) (post := []) (i := t) (by simp [digC_arr]) (by simp [arr32_len, arr8_len, digC_len]) (by simp [arr32_len, arr8_len, digC_len]; omega) (lay_arr32 _ _ (by omega)) (by simp)) ?_; clear hL; intro w15 hL hE
      replace hL : Vg.Loc [] w0 w15 ([[(b3, ob (arr32 64 (upd (sched (bufL bs) t) t ((((((rotl ((sched (bufL bs) t) (t - 2 : Nat)) 15) ^^^ (rotl ((sched (bufL bs) t) (t - 2 : Nat)) 13)) ^^^ (shr32 ((sched (bufL bs) t) (t - 2 : Nat)) 10)) + ((sched (bufL bs) t) (t - 7 : Nat))) + (((rotl ((sched (bufL bs) t) (t - 15 : Nat)) 25) ^^^ (rotl ((sched (bufL bs) t) (t - 15 : Nat)) 14)) ^^^ (shr32 ((sched (bufL bs) t) (t - 15 : Nat)) 3))) + ((sched (bufL bs) t) (t - 16 : Nat))))) 235)], [(b2, ob (arr32 8 (fun _ => 0)) 189)], [(b1, ob (arr32 8 h) 189)]]) := hL
      refine ⟨fun hn => absurd (by decide) hn, ?_⟩
      refine d_done (by kernel_rfl) ?_; clear hR hS
      refine blk_norm ?_
      refine then_norm ?_
      refine c_region ?_
      refine l_q hT (q_move hT rfl) rfl rfl (by decide) ?_; clear hT; intro a hT
      refine l_q hT (q_addI hT rfl rfl (r := (t : Int) + 1) rfl (by omega) (by omega)) rfl rfl (by decide) ?_; clear hT; intro a hT
      refine l_q hT (q_assign hT rfl) rfl rfl (by decide) ?_; clear hT; intro a hT
      refine l_end ?_
      refine then_norm ?_
      exact ⟨_, ⟨t + 1, rfl, by omega, by omega, hT.keep [2, 4, 5, 7] rfl, by rw [← sched_hi2 (bufL bs) t (by omega)]; exact hL⟩, by simp only [id]; omega⟩
    · skip
      have hc2 := of_decide_eq_false hc2
      obtain rfl : t = 64 := by omega
      refine wp_exit ?_
      refine then_exit ?_
      refine then_exit ?_
      refine blk_exit ?_
      refine then_norm ?_
      refine c_seq ?_
      refine c_region ?_
      refine l_q hT (q_load_agg hT rfl Tryz.ty189 (hL.rd 2 rfl 0 (ds := arr32 8 h) rfl) rfl) rfl rfl (by decide) ?_; clear hT; intro a hT
      refine l_do rfl ?_
      refine w_alloc hT hL (by decide) Tryz.ty189 ?_; clear hT hL; intro b4 a w16 hT hL hE hB
      refine l_do rfl ?_
      refine w_store hT hL 0 (c := arr32 8 (fun _ => 0)) rfl rfl Tryz.ty189 rfl (vs := arr32 8 h) rfl rfl (by first | decide | (simp [arr32_len, arr8_len, digC_len]; done) | (simp [arr32_len, arr8_len, digC_len]; omega)) rfl (c' := arr32 8 h) rfl ?_; clear hL; intro w17 hL hE
      replace hL : Vg.Loc [] w0 w17 ([[(b4, ob (arr32 8 h) 189)], [(b3, ob (arr32 64 (sched (bufL bs) 64)) 235)], [(b2, ob (arr32 8 (fun _ => 0)) 189)], [(b1, ob (arr32 8 h) 189)]]) := hL
      refine l_end ?_
      refine then_norm ?_
      refine c_seq ?_
      refine c_seq ?_
      refine c_region ?_
      refine l_q hT (q_assign hT rfl) rfl rfl (by decide) ?_; clear hT; intro a hT
      refine l_end ?_
      refine then_norm ?_
      refine wp_block ?_
      refine c_loop (fun mz a wz => ∃ t : Nat, mz = 64 - t ∧ t ≤ 64 ∧ 0 ≤ t ∧ Tm 214 a [(2, (vp b1 0)), (4, (vp b2 0)), (5, (vp b3 0)), (10, (vp b4 0)), (11, (vI (t : Int)))] ∧ Vg.Loc [] w0 wz [[(b4, ob (arr32 8 ((rounds h (sched (bufL bs) 64) t).at)) 189)], [(b3, ob (arr32 64 (sched (bufL bs) 64)) 235)], [(b2, ob (arr32 8 (fun _ => 0)) 189)], [(b1, ob (arr32 8 h) 189)]]) id (64 - 0) ?_ ?_
      · exact ⟨0, rfl, by omega, by omega, hT.keep [2, 4, 5, 10, 11] rfl, hL⟩
      clear hT hL
      rintro mz a w18 ⟨t, rfl, ht, htl, hT, hL⟩
      refine c_seq ?_
      refine c_seq ?_
      refine c_region ?_
      refine l_q hT (q_move hT rfl) rfl rfl (by decide) ?_; clear hT; intro a hT
      refine l_q hT (q_lss hT rfl rfl) rfl rfl (by decide) ?_; clear hT; intro a hT
      refine l_end ?_
      refine then_norm ?_
      refine c_if hT rfl (fun hc3 => ?_) (fun hc3 => ?_)
      · skip
        have hc3 := of_decide_eq_true hc3
        refine wp_skip ?_
        refine then_norm ?_
        refine c_seq ?_
        refine wp_block ?_
        refine c_seq ?_
        refine d_start' hL #[false, false, false, false, false, false, false, false, false, false, false, false] [] rfl rfl rfl ?_; clear hL; intro w19 hL hE; have hR := hL; have hS := Ext.refl w19
        refine d_pure (i := 0) hT #[true, false, false, false, false, false, false, false, false, false, false, false] rfl (by kernel_rfl) rfl rfl (by decide) (fun _ _ _ h => h) (fun _ => (q_indexAddr_arr hT rfl rfl Tryz.arr189 (by omega) (by omega)).v (v := (vp b4 4)) rfl) ?_; clear hT; intro a hT
        refine d_pure (i := 3) hT #[true, false, false, true, false, false, false, false, false, false, false, false] rfl (by kernel_rfl) rfl rfl (by decide) (fun _ _ _ h => h) (fun _ => (q_indexAddr_arr hT rfl rfl Tryz.arr189 (by omega) (by omega)).v (v := (vp b4 4)) rfl) ?_; clear hT; intro a hT
        refine d_pure (i := 7) hT #[true, false, false, true, false, false, false, true, false, false, false, false] rfl (by kernel_rfl) rfl rfl (by decide) (fun _ _ _ h => h) (fun _ => (q_indexAddr_arr hT rfl rfl Tryz.arr189 (by omega) (by omega)).v (v := (vp b4 4)) rfl) ?_; clear hT; intro a hT
        refine d_take (i := 1) hT #[true, true, false, true, false, false, false, true, false, false, false, false] rfl (by kernel_rfl) rfl rfl (by decide) (fun _ _ _ h => h) (fun _ hs => q_load hT rfl Tryz.ty188 (Rd.ext (hR.rd 0 rfl 4 (ds := [(v32 (((rounds h (sched (bufL bs) 64) t).at) 4))]) rfl) hs)) hS ?_; clear hT; intro a hT
        refine d_take (i := 4) hT #[true, true, false, true, true, false, false, true, false, false, false, false] rfl (by kernel_rfl) rfl rfl (by decide) (fun _ _ _ h => h) (fun _ hs => q_load hT rfl Tryz.ty188 (Rd.ext (hR.rd 0 rfl 4 (ds := [(v32 (((rounds h (sched (bufL bs) 64) t).at) 4))]) rfl) hs)) hS ?_; clear hT; intro a hT
        refine d_take (i := 8) hT #[true, true, false, true, true, false, false, true, true, false, false, false] rfl (by kernel_rfl) rfl rfl (by decide) (fun _ _ _ h => h) (fun _ hs => q_load hT rfl Tryz.ty188 (Rd.ext (hR.rd 0 rfl 4 (ds := [(v32 (((rounds h (sched (bufL bs) 64) t).at) 4))]) rfl) hs)) hS ?_; clear hT; intro a hT
        refine d_one (i := 2) hT #[true, true, true, true, true, false, false, true, true, false, false, false] rfl (by kernel_rfl) rfl ?_
        refine w_callT (xs := [.tmp 115, .const (.int .i64 6)]) hT rfl (vs := [(v32 (((rounds h (sched (bufL bs) 64) t).at) 4)), (vI 6)]) rfl (args := #[(v32 (((rounds h (sched (bufL bs) 64) t).at) 4)), (vI 6)]) rfl Tryz.func182 rfl rfl (by decide) ((turned_spec (((rounds h (sched (bufL bs) 64) t).at) 4) 6 (by omega) _).mono ?_)
        rintro e w20 ⟨rfl, hX⟩
        refine ⟨_, rfl, ?_⟩; clear hT; intro a hT; replace hT : Tm 214 a ((116, (v32 (rotl (((rounds h (sched (bufL bs) 64) t).at) 4) 26))) :: _) := hT
        replace hL := hL.ext hX
        replace hS := Vg.Loc.ext hS hX; refine ⟨fun _ => hS, ?_⟩
        refine d_one (i := 5) hT #[true, true, true, true, true, true, false, true, true, false, false, false] rfl (by kernel_rfl) rfl ?_
        refine w_callT (xs := [.tmp 118, .const (.int .i64 11)]) hT rfl (vs := [(v32 (((rounds h (sched (bufL bs) 64) t).at) 4)), (vI 11)]) rfl (args := #[(v32 (((rounds h (sched (bufL bs) 64) t).at) 4)), (vI 11)]) rfl Tryz.func182 rfl rfl (by decide) ((turned_spec (((rounds h (sched (bufL bs) 64) t).at) 4) 11 (by omega) _).mono ?_)
        rintro e w21 ⟨rfl, hX⟩
        refine ⟨_, rfl, ?_⟩; clear hT; intro a hT; replace hT : Tm 214 a ((119, (v32 (rotl (((rounds h (sched (bufL bs) 64) t).at) 4) 21))) :: _) := hT
        replace hL := hL.ext hX
        replace hS := Vg.Loc.ext hS hX; refine ⟨fun _ => hS, ?_⟩
        refine d_pure (i := 6) hT #[true, true, true, true, true, true, true, true, true, false, false, false] rfl (by kernel_rfl) rfl rfl (by decide) (fun _ _ _ h => h) (fun _ => q_xor32 (u := rotl (((rounds h (sched (bufL bs) 64) t).at) 4) 26) (v := rotl (((rounds h (sched (bufL bs) 64) t).at) 4) 21) hT rfl rfl) ?_; clear hT; intro a hT
        refine d_one (i := 9) hT #[true, true, true, true, true, true, true, true, true, true, false, false] rfl (by kernel_rfl) rfl ?_
        refine w_callT (xs := [.tmp 122, .const (.int .i64 25)]) hT rfl (vs := [(v32 (((rounds h (sched (bufL bs) 64) t).at) 4)), (vI 25)]) rfl (args := #[(v32 (((rounds h (sched (bufL bs) 64) t).at) 4)), (vI 25)]) rfl Tryz.func182 rfl rfl (by decide) ((turned_spec (((rounds h (sched (bufL bs) 64) t).at) 4) 25 (by omega) _).mono ?_)
        rintro e w22 ⟨rfl, hX⟩
        refine ⟨_, rfl, ?_⟩; clear hT; intro a hT; replace hT : Tm 214 a ((123, (v32 (rotl (((rounds h (sched (bufL bs) 64) t).at) 4) 7))) :: _) := hT
        replace hL := hL.ext hX
        replace hS := Vg.Loc.ext hS hX; refine ⟨fun _ => hS, ?_⟩
        refine d_pure (i := 10) hT #[true, true, true, true, true, true, true, true, true, true, true, false] rfl (by kernel_rfl) rfl rfl (by decide) (fun _ _ _ h => h) (fun _ => q_xor32 (u := (rotl (((rounds h (sched (bufL bs) 64) t).at) 4) 26) ^^^ (rotl (((rounds h (sched (bufL bs) 64) t).at) 4) 21)) (v := rotl (((rounds h (sched (bufL bs) 64) t).at) 4) 7) hT rfl rfl) ?_; clear hT; intro a hT
        refine d_pure (i := 11) hT #[true, true, true, true, true, true, true, true, true, true, true, true] rfl (by kernel_rfl) rfl rfl (by decide) (fun _ _ _ h => h) (fun _ => q_assign hT rfl) ?_; clear hT; intro a hT
        refine d_done (by kernel_rfl) ?_; clear hR hS
        refine then_norm ?_
        refine c_seq ?_
        refine d_start' hL #[false, false, false, false, false, false, false, false, false, false, false, false] [] rfl rfl rfl ?_; clear hL; intro w23 hL hE; have hR := hL; have hS := Ext.refl w23
        refine d_pure (i := 0) hT #[true, false, false, false, false, false, false, false, false, false, false, false] rfl (by kernel_rfl) rfl rfl (by decide) (fun _ _ _ h => h) (fun _ => (q_indexAddr_arr hT rfl rfl Tryz.arr189 (by omega) (by omega)).v (v := (vp b4 0)) rfl) ?_; clear hT; intro a hT
        refine d_pure (i := 3) hT #[true, false, false, true, false, false, false, false, false, false, false, false] rfl (by kernel_rfl) rfl rfl (by decide) (fun _ _ _ h => h) (fun _ => (q_indexAddr_arr hT rfl rfl Tryz.arr189 (by omega) (by omega)).v (v := (vp b4 0)) rfl) ?_; clear hT; intro a hT
        refine d_pure (i := 7) hT #[true, false, false, true, false, false, false, true, false, false, false, false] rfl (by kernel_rfl) rfl rfl (by decide) (fun _ _ _ h => h) (fun _ => (q_indexAddr_arr hT rfl rfl Tryz.arr189 (by omega) (by omega)).v (v := (vp b4 0)) rfl) ?_; clear hT; intro a hT
        refine d_take (i := 1) hT #[true, true, false, true, false, false, false, true, false, false, false, false] rfl (by kernel_rfl) rfl rfl (by decide) (fun _ _ _ h => h) (fun _ hs => q_load hT rfl Tryz.ty188 (Rd.ext (hR.rd 0 rfl 0 (ds := [(v32 (((rounds h (sched (bufL bs) 64) t).at) 0))]) rfl) hs)) hS ?_; clear hT; intro a hT
        refine d_take (i := 4) hT #[true, true, false, true, true, false, false, true, false, false, false, false] rfl (by kernel_rfl) rfl rfl (by decide) (fun _ _ _ h => h) (fun _ hs => q_load hT rfl Tryz.ty188 (Rd.ext (hR.rd 0 rfl 0 (ds := [(v32 (((rounds h (sched (bufL bs) 64) t).at) 0))]) rfl) hs)) hS ?_; clear hT; intro a hT
        refine d_take (i := 8) hT #[true, true, false, true, true, false, false, true, true, false, false, false] rfl (by kernel_rfl) rfl rfl (by decide) (fun _ _ _ h => h) (fun _ hs => q_load hT rfl Tryz.ty188 (Rd.ext (hR.rd 0 rfl 0 (ds := [(v32 (((rounds h (sched (bufL bs) 64) t).at) 0))]) rfl) hs)) hS ?_; clear hT; intro a hT
        refine d_one (i := 2) hT #[true, true, true, true, true, false, false, true, true, false, false, false] rfl (by kernel_rfl) rfl ?_
        refine w_callT (xs := [.tmp 126, .const (.int .i64 2)]) hT rfl (vs := [(v32 (((rounds h (sched (bufL bs) 64) t).at) 0)), (vI 2)]) rfl (args := #[(v32 (((rounds h (sched (bufL bs) 64) t).at) 0)), (vI 2)]) rfl Tryz.func182 rfl rfl (by decide) ((turned_spec (((rounds h (sched (bufL bs) 64) t).at) 0) 2 (by omega) _).mono ?_)
        rintro e w24 ⟨rfl, hX⟩
        refine ⟨_, rfl, ?_⟩; clear hT; intro a hT; replace hT : Tm 214 a ((127, (v32 (rotl (((rounds h (sched (bufL bs) 64) t).at) 0) 30))) :: _) := hT
        replace hL := hL.ext hX
        replace hS := Vg.Loc.ext hS hX; refine ⟨fun _ => hS, ?_⟩
        refine d_one (i := 5) hT #[true, true, true, true, true, true, false, true, true, false, false, false] rfl (by kernel_rfl) rfl ?_
        refine w_callT (xs := [.tmp 129, .const (.int .i64 13)]) hT rfl (vs := [(v32 (((rounds h (sched (bufL bs) 64) t).at) 0)), (vI 13)]) rfl (args := #[(v32 (((rounds h (sched (bufL bs) 64) t).at) 0)), (vI 13)]) rfl Tryz.func182 rfl rfl (by decide) ((turned_spec (((rounds h (sched (bufL bs) 64) t).at) 0) 13 (by omega) _).mono ?_)
        rintro e w25 ⟨rfl, hX⟩
        refine ⟨_, rfl, ?_⟩; clear hT; intro a hT; replace hT : Tm 214 a ((130, (v32 (rotl (((rounds h (sched (bufL bs) 64) t).at) 0) 19))) :: _) := hT
        replace hL := hL.ext hX
        replace hS := Vg.Loc.ext hS hX; refine ⟨fun _ => hS, ?_⟩
        refine d_pure (i := 6) hT #[true, true, true, true, true, true, true, true, true, false, false, false] rfl (by kernel_rfl) rfl rfl (by decide) (fun _ _ _ h => h) (fun _ => q_xor32 (u := rotl (((rounds h (sched (bufL bs) 64) t).at) 0) 30) (v := rotl (((rounds h (sched (bufL bs) 64) t).at) 0) 19) hT rfl rfl) ?_; clear hT; intro a hT
        refine d_one (i := 9) hT #[true, true, true, true, true, true, true, true, true, true, false, false] rfl (by kernel_rfl) rfl ?_
        refine w_callT (xs := [.tmp 133, .const (.int .i64 22)]) hT rfl (vs := [(v32 (((rounds h (sched (bufL bs) 64) t).at) 0)), (vI 22)]) rfl (args := #[(v32 (((rounds h (sched (bufL bs) 64) t).at) 0)), (vI 22)]) rfl Tryz.func182 rfl rfl (by decide) ((turned_spec (((rounds h (sched (bufL bs) 64) t).at) 0) 22 (by omega) _).mono ?_)
        rintro e w26 ⟨rfl, hX⟩
        refine ⟨_, rfl, ?_⟩; clear hT; intro a hT; replace hT : Tm 214 a ((134, (v32 (rotl (((rounds h (sched (bufL bs) 64) t).at) 0) 10))) :: _) := hT
        replace hL := hL.ext hX
        replace hS := Vg.Loc.ext hS hX; refine ⟨fun _ => hS, ?_⟩
        refine d_pure (i := 10) hT #[true, true, true, true, true, true, true, true, true, true, true, false] rfl (by kernel_rfl) rfl rfl (by decide) (fun _ _ _ h => h) (fun _ => q_xor32 (u := (rotl (((rounds h (sched (bufL bs) 64) t).at) 0) 30) ^^^ (rotl (((rounds h (sched (bufL bs) 64) t).at) 0) 19)) (v := rotl (((rounds h (sched (bufL bs) 64) t).at) 0) 10) hT rfl rfl) ?_; clear hT; intro a hT
        refine d_pure (i := 11) hT #[true, true, true, true, true, true, true, true, true, true, true, true] rfl (by kernel_rfl) rfl rfl (by decide) (fun _ _ _ h => h) (fun _ => q_assign hT rfl) ?_; clear hT; intro a hT
        refine d_done (by kernel_rfl) ?_; clear hR hS
        refine then_norm ?_
        refine c_seq ?_
        refine d_start' hL #[false, false, false, false, false, false, false, false, false, false, false, false, false, false, false, false, false, false, false, false, false, false, false, false, false, false] [] rfl rfl rfl ?_; clear hL; intro w27 hL hE; have hR := hL; have hS := Ext.refl w27
        refine d_pure (i := 0) hT #[true, false, false, false, false, false, false, false, false, false, false, false, false, false, false, false, false, false, false, false, false, false, false, false, false, false] rfl (by kernel_rfl) rfl rfl (by decide) (fun _ _ _ h => h) (fun _ => (q_indexAddr_arr hT rfl rfl Tryz.arr189 (by omega) (by omega)).v (v := (vp b4 7)) rfl) ?_; clear hT; intro a hT
        refine d_pure (i := 2) hT #[true, false, true, false, false, false, false, false, false, false, false, false, false, false, false, false, false, false, false, false, false, false, false, false, false, false] rfl (by kernel_rfl) rfl rfl (by decide) (fun _ _ _ h => h) (fun _ => q_move hT rfl) ?_; clear hT; intro a hT
        refine d_pure (i := 4) hT #[true, false, true, false, true, false, false, false, false, false, false, false, false, false, false, false, false, false, false, false, false, false, false, false, false, false] rfl (by kernel_rfl) rfl rfl (by decide) (fun _ _ _ h => h) (fun _ => (q_indexAddr_arr hT rfl rfl Tryz.arr189 (by omega) (by omega)).v (v := (vp b4 4)) rfl) ?_; clear hT; intro a hT
        refine d_pure (i := 6) hT #[true, false, true, false, true, false, true, false, false, false, false, false, false, false, false, false, false, false, false, false, false, false, false, false, false, false] rfl (by kernel_rfl) rfl rfl (by decide) (fun _ _ _ h => h) (fun _ => (q_indexAddr_arr hT rfl rfl Tryz.arr189 (by omega) (by omega)).v (v := (vp b4 5)) rfl) ?_; clear hT; intro a hT
        refine d_pure (i := 9) hT #[true, false, true, false, true, false, true, false, false, true, false, false, false, false, false, false, false, false, false, false, false, false, false, false, false, false] rfl (by kernel_rfl) rfl rfl (by decide) (fun _ _ _ h => h) (fun _ => (q_indexAddr_arr hT rfl rfl Tryz.arr189 (by omega) (by omega)).v (v := (vp b4 4)) rfl) ?_; clear hT; intro a hT
        refine d_pure (i := 12) hT #[true, false, true, false, true, false, true, false, false, true, false, false, true, false, false, false, false, false, false, false, false, false, false, false, false, false] rfl (by kernel_rfl) rfl rfl (by decide) (fun _ _ _ h => h) (fun _ => (q_indexAddr_arr hT rfl rfl Tryz.arr189 (by omega) (by omega)).v (v := (vp b4 6)) rfl) ?_; clear hT; intro a hT
        refine d_pure (i := 17) hT #[true, false, true, false, true, false, true, false, false, true, false, false, true, false, false, false, false, true, false, false, false, false, false, false, false, false] rfl (by kernel_rfl) rfl rfl (by decide) (fun _ _ _ h => h) (fun _ => q_move hT rfl) ?_; clear hT; intro a hT
        refine d_pure (i := 18) hT #[true, false, true, false, true, false, true, false, false, true, false, false, true, false, false, false, false, true, true, false, false, false, false, false, false, false] rfl (by kernel_rfl) rfl rfl (by decide) (fun _ _ _ h => h) (fun _ => (q_indexAddr_arr hT rfl rfl Tryz.arr235 (by omega) (by omega)).v (v := vp 0 (0 + t)) (by simp)) ?_; clear hT; intro a hT
        refine d_pure (i := 21) hT #[true, false, true, false, true, false, true, false, false, true, false, false, true, false, false, false, false, true, true, false, false, true, false, false, false, false] rfl (by kernel_rfl) rfl rfl (by decide) (fun _ _ _ h => h) (fun _ => q_move hT rfl) ?_; clear hT; intro a hT
        refine d_pure (i := 22) hT #[true, false, true, false, true, false, true, false, false, true, false, false, true, false, false, false, false, true, true, false, false, true, true, false, false, false] rfl (by kernel_rfl) rfl rfl (by decide) (fun _ _ _ h => h) (fun _ => (q_indexAddr_arr hT rfl rfl Tryz.arr235 (by omega) (by omega)).v (v := vp b3 (0 + t)) (by simp)) ?_; clear hT; intro a hT
        refine d_take (i := 1) hT #[true, true, true, false, true, false, true, false, false, true, false, false, true, false, false, false, false, true, true, false, false, true, true, false, false, false] rfl (by kernel_rfl) rfl rfl (by decide) (fun _ _ _ h => h) (fun _ hs => q_load hT rfl Tryz.ty188 (Rd.ext (hR.rd 0 rfl 7 (ds := [(v32 (((rounds h (sched (bufL bs) 64) t).at) 7))]) rfl) hs)) hS ?_; clear hT; intro a hT
        refine d_pure (i := 3) hT #[true, true, true, true, true, false, true, false, false, true, false, false, true, false, false, false, false, true, true, false, false, true, true, false, false, false] rfl (by kernel_rfl) rfl rfl (by decide) (fun _ _ _ h => h) (fun _ => q_add32 (u := ((rounds h (sched (bufL bs) 64) t).at) 7) (v := ((rotl (((rounds h (sched (bufL bs) 64) t).at) 4) 26) ^^^ (rotl (((rounds h (sched (bufL bs) 64) t).at) 4) 21)) ^^^ (rotl (((rounds h (sched (bufL bs) 64) t).at) 4) 7)) hT rfl rfl) ?_; clear hT; intro a hT
        refine d_take (i := 5) hT #[true, true, true, true, true, true, true, false, false, true, false, false, true, false, false, false, false, true, true, false, false, true, true, false, false, false] rfl (by kernel_rfl) rfl rfl (by decide) (fun _ _ _ h => h) (fun _ hs => q_load hT rfl Tryz.ty188 (Rd.ext (hR.rd 0 rfl 4 (ds := [(v32 (((rounds h (sched (bufL bs) 64) t).at) 4))]) rfl) hs)) hS ?_; clear hT; intro a hT
        refine d_take (i := 7) hT #[true, true, true, true, true, true, true, true, false, true, false, false, true, false, false, false, false, true, true, false, false, true, true, false, false, false] rfl (by kernel_rfl) rfl rfl (by decide) (fun _ _ _ h => h) (fun _ hs => q_load hT rfl Tryz.ty188 (Rd.ext (hR.rd 0 rfl 5 (ds := [(v32 (((rounds h (sched (bufL bs) 64) t).at) 5))]) rfl) hs)) hS ?_; clear hT; intro a hT
        refine d_pure (i := 8) hT #[true, true, true, true, true, true, true, true, true, true, false, false, true, false, false, false, false, true, true, false, false, true, true, false, false, false] rfl (by kernel_rfl) rfl rfl (by decide) (fun _ _ _ h => h) (fun _ => q_and32 (u := ((rounds h (sched (bufL bs) 64) t).at) 4) (v := ((rounds h (sched (bufL bs) 64) t).at) 5) hT rfl rfl) ?_; clear hT; intro a hT
        refine d_take (i := 10) hT #[true, true, true, true, true, true, true, true, true, true, true, false, true, false, false, false, false, true, true, false, false, true, true, false, false, false] rfl (by kernel_rfl) rfl rfl (by decide) (fun _ _ _ h => h) (fun _ hs => q_load hT rfl Tryz.ty188 (Rd.ext (hR.rd 0 rfl 4 (ds := [(v32 (((rounds h (sched (bufL bs) 64) t).at) 4))]) rfl) hs)) hS ?_; clear hT; intro a hT
        refine d_pure (i := 11) hT #[true, true, true, true, true, true, true, true, true, true, true, true, true, false, false, false, false, true, true, false, false, true, true, false, false, false] rfl (by kernel_rfl) rfl rfl (by decide) (fun _ _ _ h => h) (fun _ => q_not32 (u := ((rounds h (sched (bufL bs) 64) t).at) 4) hT rfl) ?_; clear hT; intro a hT
        refine d_take (i := 13) hT #[true, true, true, true, true, true, true, true, true, true, true, true, true, true, false, false, false, true, true, false, false, true, true, false, false, false] rfl (by kernel_rfl) rfl rfl (by decide) (fun _ _ _ h => h) (fun _ hs => q_load hT rfl Tryz.ty188 (Rd.ext (hR.rd 0 rfl 6 (ds := [(v32 (((rounds h (sched (bufL bs) 64) t).at) 6))]) rfl) hs)) hS ?_; clear hT; intro a hT
        refine d_pure (i := 14) hT #[true, true, true, true, true, true, true, true, true, true, true, true, true, true, true, false, false, true, true, false, false, true, true, false, false, false] rfl (by kernel_rfl) rfl rfl (by decide) (fun _ _ _ h => h) (fun _ => q_and32 (u := ~~~(((rounds h (sched (bufL bs) 64) t).at) 4)) (v := ((rounds h (sched (bufL bs) 64) t).at) 6) hT rfl rfl) ?_; clear hT; intro a hT
        refine d_pure (i := 15) hT #[true, true, true, true, true, true, true, true, true, true, true, true, true, true, true, true, false, true, true, false, false, true, true, false, false, false] rfl (by kernel_rfl) rfl rfl (by decide) (fun _ _ _ h => h) (fun _ => q_xor32 (u := (((rounds h (sched (bufL bs) 64) t).at) 4) &&& (((rounds h (sched (bufL bs) 64) t).at) 5)) (v := (~~~(((rounds h (sched (bufL bs) 64) t).at) 4)) &&& (((rounds h (sched (bufL bs) 64) t).at) 6)) hT rfl rfl) ?_; clear hT; intro a hT
        refine d_pure (i := 16) hT #[true, true, true, true, true, true, true, true, true, true, true, true, true, true, true, true, true, true, true, false, false, true, true, false, false, false] rfl (by kernel_rfl) rfl rfl (by decide) (fun _ _ _ h => h) (fun _ => q_add32 (u := (((rounds h (sched (bufL bs) 64) t).at) 7) + (((rotl (((rounds h (sched (bufL bs) 64) t).at) 4) 26) ^^^ (rotl (((rounds h (sched (bufL bs) 64) t).at) 4) 21)) ^^^ (rotl (((rounds h (sched (bufL bs) 64) t).at) 4) 7))) (v := ((((rounds h (sched (bufL bs) 64) t).at) 4) &&& (((rounds h (sched (bufL bs) 64) t).at) 5)) ^^^ ((~~~(((rounds h (sched (bufL bs) 64) t).at) 4)) &&& (((rounds h (sched (bufL bs) 64) t).at) 6))) hT rfl rfl) ?_; clear hT; intro a hT
        refine d_take (i := 19) hT #[true, true, true, true, true, true, true, true, true, true, true, true, true, true, true, true, true, true, true, true, false, true, true, false, false, false] rfl (by kernel_rfl) rfl rfl (by decide) (fun _ _ _ h => h) (fun _ hs => q_load hT rfl Tryz.ty188 (Rd.ext (Rd.at32 ((hK2.of hR (by simp))) (i := t) (by omega)) hs)) hS ?_; clear hT; intro a hT
        refine d_pure (i := 20) hT #[true, true, true, true, true, true, true, true, true, true, true, true, true, true, true, true, true, true, true, true, true, true, true, false, false, false] rfl (by kernel_rfl) rfl rfl (by decide) (fun _ _ _ h => h) (fun _ => q_add32 (u := ((((rounds h (sched (bufL bs) 64) t).at) 7) + (((rotl (((rounds h (sched (bufL bs) 64) t).at) 4) 26) ^^^ (rotl (((rounds h (sched (bufL bs) 64) t).at) 4) 21)) ^^^ (rotl (((rounds h (sched (bufL bs) 64) t).at) 4) 7))) + (((((rounds h (sched (bufL bs) 64) t).at) 4) &&& (((rounds h (sched (bufL bs) 64) t).at) 5)) ^^^ ((~~~(((rounds h (sched (bufL bs) 64) t).at) 4)) &&& (((rounds h (sched (bufL bs) 64) t).at) 6)))) (v := keyF t) hT rfl rfl) ?_; clear hT; intro a hT
        refine d_take (i := 23) hT #[true, true, true, true, true, true, true, true, true, true, true, true, true, true, true, true, true, true, true, true, true, true, true, true, false, false] rfl (by kernel_rfl) rfl rfl (by decide) (fun _ _ _ h => h) (fun _ hs => q_load hT rfl Tryz.ty188 (Rd.ext (Rd.at32 (hR.rd 1 rfl 0 (ds := arr32 64 (sched (bufL bs) 64)) rfl) (i := t) (by omega)) hs)) hS ?_; clear hT; intro a hT
        refine d_pure (i := 24) hT #[true, true, true, true, true, true, true, true, true, true, true, true, true, true, true, true, true, true, true, true, true, true, true, true, true, false] rfl (by kernel_rfl) rfl rfl (by decide) (fun _ _ _ h => h) (fun _ => q_add32 (u := (((((rounds h (sched (bufL bs) 64) t).at) 7) + (((rotl (((rounds h (sched (bufL bs) 64) t).at) 4) 26) ^^^ (rotl (((rounds h (sched (bufL bs) 64) t).at) 4) 21)) ^^^ (rotl (((rounds h (sched (bufL bs) 64) t).at) 4) 7))) + (((((rounds h (sched (bufL bs) 64) t).at) 4) &&& (((rounds h (sched (bufL bs) 64) t).at) 5)) ^^^ ((~~~(((rounds h (sched (bufL bs) 64) t).at) 4)) &&& (((rounds h (sched (bufL bs) 64) t).at) 6)))) + (keyF t)) (v := (sched (bufL bs) 64) t) hT rfl rfl) ?_; clear hT; intro a hT
        refine d_pure (i := 25) hT #[true, true, true, true, true, true, true, true, true, true, true, true, true, true, true, true, true, true, true, true, true, true, true, true, true, true] rfl (by kernel_rfl) rfl rfl (by decide) (fun _ _ _ h => h) (fun _ => q_assign hT rfl) ?_; clear hT; intro a hT
        refine d_done (by kernel_rfl) ?_; clear hR hS
        refine then_norm ?_
        refine c_seq ?_
        refine c_region ?_
        refine l_q hT (q_move hT rfl) rfl rfl (by decide) ?_; clear hT; intro a hT
        refine l_q hT ((q_indexAddr_arr hT rfl rfl Tryz.arr189 (by omega) (by omega)).v (v := (vp b4 0)) rfl) rfl rfl (by decide) ?_; clear hT; intro a hT
        refine l_q hT (q_load hT rfl Tryz.ty188 (hL.rd 0 rfl 0 (ds := [(v32 (((rounds h (sched (bufL bs) 64) t).at) 0))]) rfl)) rfl rfl (by decide) ?_; clear hT; intro a hT
        refine l_q hT ((q_indexAddr_arr hT rfl rfl Tryz.arr189 (by omega) (by omega)).v (v := (vp b4 1)) rfl) rfl rfl (by decide) ?_; clear hT; intro a hT
        refine l_q hT (q_load hT rfl Tryz.ty188 (hL.rd 0 rfl 1 (ds := [(v32 (((rounds h (sched (bufL bs) 64) t).at) 1))]) rfl)) rfl rfl (by decide) ?_; clear hT; intro a hT
        refine l_q hT (q_and32 (u := ((rounds h (sched (bufL bs) 64) t).at) 0) (v := ((rounds h (sched (bufL bs) 64) t).at) 1) hT rfl rfl) rfl rfl (by decide) ?_; clear hT; intro a hT
        refine l_q hT ((q_indexAddr_arr hT rfl rfl Tryz.arr189 (by omega) (by omega)).v (v := (vp b4 0)) rfl) rfl rfl (by decide) ?_; clear hT; intro a hT
        refine l_q hT (q_load hT rfl Tryz.ty188 (hL.rd 0 rfl 0 (ds := [(v32 (((rounds h (sched (bufL bs) 64) t).at) 0))]) rfl)) rfl rfl (by decide) ?_; clear hT; intro a hT
        refine l_q hT ((q_indexAddr_arr hT rfl rfl Tryz.arr189 (by omega) (by omega)).v (v := (vp b4 2)) rfl) rfl rfl (by decide) ?_; clear hT; intro a hT
        refine l_q hT (q_load hT rfl Tryz.ty188 (hL.rd 0 rfl 2 (ds := [(v32 (((rounds h (sched (bufL bs) 64) t).at) 2))]) rfl)) rfl rfl (by decide) ?_; clear hT; intro a hT
        refine l_q hT (q_and32 (u := ((rounds h (sched (bufL bs) 64) t).at) 0) (v := ((rounds h (sched (bufL bs) 64) t).at) 2) hT rfl rfl) rfl rfl (by decide) ?_; clear hT; intro a hT
        refine l_q hT (q_xor32 (u := (((rounds h (sched (bufL bs) 64) t).at) 0) &&& (((rounds h (sched (bufL bs) 64) t).at) 1)) (v := (((rounds h (sched (bufL bs) 64) t).at) 0) &&& (((rounds h (sched (bufL bs) 64) t).at) 2)) hT rfl rfl) rfl rfl (by decide) ?_; clear hT; intro a hT
        refine l_q hT ((q_indexAddr_arr hT rfl rfl Tryz.arr189 (by omega) (by omega)).v (v := (vp b4 1)) rfl) rfl rfl (by decide) ?_; clear hT; intro a hT
        refine l_q hT (q_load hT rfl Tryz.ty188 (hL.rd 0 rfl 1 (ds := [(v32 (((rounds h (sched (bufL bs) 64) t).at) 1))]) rfl)) rfl rfl (by decide) ?_; clear hT; intro a hT
        refine l_q hT ((q_indexAddr_arr hT rfl rfl Tryz.arr189 (by omega) (by omega)).v (v := (vp b4 2)) rfl) rfl rfl (by decide) ?_; clear hT; intro a hT
        refine l_q hT (q_load hT rfl Tryz.ty188 (hL.rd 0 rfl 2 (ds := [(v32 (((rounds h (sched (bufL bs) 64) t).at) 2))]) rfl)) rfl rfl (by decide) ?_; clear hT; intro a hT
        refine l_q hT (q_and32 (u := ((rounds h (sched (bufL bs) 64) t).at) 1) (v := ((rounds h (sched (bufL bs) 64) t).at) 2) hT rfl rfl) rfl rfl (by decide) ?_; clear hT; intro a hT
        refine l_q hT (q_xor32 (u := ((((rounds h (sched (bufL bs) 64) t).at) 0) &&& (((rounds h (sched (bufL bs) 64) t).at) 1)) ^^^ ((((rounds h (sched (bufL bs) 64) t).at) 0) &&& (((rounds h (sched (bufL bs) 64) t).at) 2))) (v := (((rounds h (sched (bufL bs) 64) t).at) 1) &&& (((rounds h (sched (bufL bs) 64) t).at) 2)) hT rfl rfl) rfl rfl (by decide) ?_; clear hT; intro a hT
        refine l_q hT (q_add32 (u := ((rotl (((rounds h (sched (bufL bs) 64) t).at) 0) 30) ^^^ (rotl (((rounds h (sched (bufL bs) 64) t).at) 0) 19)) ^^^ (rotl (((rounds h (sched (bufL bs) 64) t).at) 0) 10)) (v := (((((rounds h (sched (bufL bs) 64) t).at) 0) &&& (((rounds h (sched (bufL bs) 64) t).at) 1)) ^^^ ((((rounds h (sched (bufL bs) 64) t).at) 0) &&& (((rounds h (sched (bufL bs) 64) t).at) 2))) ^^^ ((((rounds h (sched (bufL bs) 64) t).at) 1) &&& (((rounds h (sched (bufL bs) 64) t).at) 2))) hT rfl rfl) rfl rfl (by decide) ?_; clear hT; intro a hT
        refine l_q hT (q_assign hT rfl) rfl rfl (by decide) ?_; clear hT; intro a hT
        refine l_end ?_
        refine then_norm ?_
        refine c_region ?_
        refine l_q hT (q_move hT rfl) rfl rfl (by decide) ?_; clear hT; intro a hT
        refine l_q hT (q_move hT rfl) rfl rfl (by decide) ?_; clear hT; intro a hT
        refine l_q hT (q_add32 (u := ((((((rounds h (sched (bufL bs) 64) t).at) 7) + (((rotl (((rounds h (sched (bufL bs) 64) t).at) 4) 26) ^^^ (rotl (((rounds h (sched (bufL bs) 64) t).at) 4) 21)) ^^^ (rotl (((rounds h (sched (bufL bs) 64) t).at) 4) 7))) + (((((rounds h (sched (bufL bs) 64) t).at) 4) &&& (((rounds h (sched (bufL bs) 64) t).at) 5)) ^^^ ((~~~(((rounds h (sched (bufL bs) 64) t).at) 4)) &&& (((rounds h (sched (bufL bs) 64) t).at) 6)))) + (keyF t)) + ((sched (bufL bs) 64) t)) (v := (((rotl (((rounds h (sched (bufL bs) 64) t).at) 0) 30) ^^^ (rotl (((rounds h (sched (bufL bs) 64) t).at) 0) 19)) ^^^ (rotl (((rounds h (sched (bufL bs) 64) t).at) 0) 10)) + ((((((rounds h (sched (bufL bs) 64) t).at) 0) &&& (((rounds h (sched (bufL bs) 64) t).at) 1)) ^^^ ((((rounds h (sched (bufL bs) 64) t).at) 0) &&& (((rounds h (sched (bufL bs) 64) t).at) 2))) ^^^ ((((rounds h (sched (bufL bs) 64) t).at) 1) &&& (((rounds h (sched (bufL bs) 64) t).at) 2)))) hT rfl rfl) rfl rfl (by decide) ?_; clear hT; intro a hT
        refine l_q hT ((q_indexAddr_arr hT rfl rfl Tryz.arr189 (by omega) (by omega)).v (v := (vp b4 0)) rfl) rfl rfl (by decide) ?_; clear hT; intro a hT
        refine l_q hT (q_load hT rfl Tryz.ty188 (hL.rd 0 rfl 0 (ds := [(v32 (((rounds h (sched (bufL bs) 64) t).at) 0))]) rfl)) rfl rfl (by decide) ?_; clear hT; intro a hT
        refine l_q hT ((q_indexAddr_arr hT rfl rfl Tryz.arr189 (by omega) (by omega)).v (v := (vp b4 1)) rfl) rfl rfl (by decide) ?_; clear hT; intro a hT
        refine l_q hT (q_load hT rfl Tryz.ty188 (hL.rd 0 rfl 1 (ds := [(v32 (((rounds h (sched (bufL bs) 64) t).at) 1))]) rfl)) rfl rfl (by decide) ?_; clear hT; intro a hT
        refine l_q hT ((q_indexAddr_arr hT rfl rfl Tryz.arr189 (by omega) (by omega)).v (v := (vp b4 2)) rfl) rfl rfl (by decide) ?_; clear hT; intro a hT
        refine l_q hT (q_load hT rfl Tryz.ty188 (hL.rd 0 rfl 2 (ds := [(v32 (((rounds h (sched (bufL bs) 64) t).at) 2))]) rfl)) rfl rfl (by decide) ?_; clear hT; intro a hT
        refine l_q hT ((q_indexAddr_arr hT rfl rfl Tryz.arr189 (by omega) (by omega)).v (v := (vp b4 3)) rfl) rfl rfl (by decide) ?_; clear hT; intro a hT
        refine l_q hT (q_load hT rfl Tryz.ty188 (hL.rd 0 rfl 3 (ds := [(v32 (((rounds h (sched (bufL bs) 64) t).at) 3))]) rfl)) rfl rfl (by decide) ?_; clear hT; intro a hT
        refine l_q hT (q_move hT rfl) rfl rfl (by decide) ?_; clear hT; intro a hT
        refine l_q hT (q_add32 (u := ((rounds h (sched (bufL bs) 64) t).at) 3) (v := ((((((rounds h (sched (bufL bs) 64) t).at) 7) + (((rotl (((rounds h (sched (bufL bs) 64) t).at) 4) 26) ^^^ (rotl (((rounds h (sched (bufL bs) 64) t).at) 4) 21)) ^^^ (rotl (((rounds h (sched (bufL bs) 64) t).at) 4) 7))) + (((((rounds h (sched (bufL bs) 64) t).at) 4) &&& (((rounds h (sched (bufL bs) 64) t).at) 5)) ^^^ ((~~~(((rounds h (sched (bufL bs) 64) t).at) 4)) &&& (((rounds h (sched (bufL bs) 64) t).at) 6)))) + (keyF t)) + ((sched (bufL bs) 64) t)) hT rfl rfl) rfl rfl (by decide) ?_; clear hT; intro a hT
        refine l_q hT ((q_indexAddr_arr hT rfl rfl Tryz.arr189 (by omega) (by omega)).v (v := (vp b4 4)) rfl) rfl rfl (by decide) ?_; clear hT; intro a hT
        refine l_q hT (q_load hT rfl Tryz.ty188 (hL.rd 0 rfl 4 (ds := [(v32 (((rounds h (sched (bufL bs) 64) t).at) 4))]) rfl)) rfl rfl (by decide) ?_; clear hT; intro a hT
        refine l_q hT ((q_indexAddr_arr hT rfl rfl Tryz.arr189 (by omega) (by omega)).v (v := (vp b4 5)) rfl) rfl rfl (by decide) ?_; clear hT; intro a hT
        refine l_q hT (q_load hT rfl Tryz.ty188 (hL.rd 0 rfl 5 (ds := [(v32 (((rounds h (sched (bufL bs) 64) t).at) 5))]) rfl)) rfl rfl (by decide) ?_; clear hT; intro a hT
        refine l_q hT ((q_indexAddr_arr hT rfl rfl Tryz.arr189 (by omega) (by omega)).v (v := (vp b4 6)) rfl) rfl rfl (by decide) ?_; clear hT; intro a hT
        refine l_q hT (q_load hT rfl Tryz.ty188 (hL.rd 0 rfl 6 (ds := [(v32 (((rounds h (sched (bufL bs) 64) t).at) 6))]) rfl)) rfl rfl (by decide) ?_; clear hT; intro a hT
        refine l_q hT (q_build (ps := [(0, .tmp 182), (1, .tmp 184), (2, .tmp 186), (3, .tmp 188), (4, .tmp 192), (5, .tmp 194), (6, .tmp 196), (7, .tmp 198)]) (pv := [(0, (v32 ((((((((rounds h (sched (bufL bs) 64) t).at) 7) + (((rotl (((rounds h (sched (bufL bs) 64) t).at) 4) 26) ^^^ (rotl (((rounds h (sched (bufL bs) 64) t).at) 4) 21)) ^^^ (rotl (((rounds h (sched (bufL bs) 64) t).at) 4) 7))) + (((((rounds h (sched (bufL bs) 64) t).at) 4) &&& (((rounds h (sched (bufL bs) 64) t).at) 5)) ^^^ ((~~~(((rounds h (sched (bufL bs) 64) t).at) 4)) &&& (((rounds h (sched (bufL bs) 64) t).at) 6)))) + (keyF t)) + ((sched (bufL bs) 64) t)) + ((((rotl (((rounds h (sched (bufL bs) 64) t).at) 0) 30) ^^^ (rotl (((rounds h (sched (bufL bs) 64) t).at) 0) 19)) ^^^ (rotl (((rounds h (sched (bufL bs) 64) t).at) 0) 10)) + ((((((rounds h (sched (bufL bs) 64) t).at) 0) &&& (((rounds h (sched (bufL bs) 64) t).at) 1)) ^^^ ((((rounds h (sched (bufL bs) 64) t).at) 0) &&& (((rounds h (sched (bufL bs) 64) t).at) 2))) ^^^ ((((rounds h (sched (bufL bs) 64) t).at) 1) &&& (((rounds h (sched (bufL bs) 64) t).at) 2))))))), (1, (v32 (((rounds h (sched (bufL bs) 64) t).at) 0))), (2, (v32 (((rounds h (sched (bufL bs) 64) t).at) 1))), (3, (v32 (((rounds h (sched (bufL bs) 64) t).at) 2))), (4, (v32 ((((rounds h (sched (bufL bs) 64) t).at) 3) + (((((((rounds h (sched (bufL bs) 64) t).at) 7) + (((rotl (((rounds h (sched (bufL bs) 64) t).at) 4) 26) ^^^ (rotl (((rounds h (sched (bufL bs) 64) t).at) 4) 21)) ^^^ (rotl (((rounds h (sched (bufL bs) 64) t).at) 4) 7))) + (((((rounds h (sched (bufL bs) 64) t).at) 4) &&& (((rounds h (sched (bufL bs) 64) t).at) 5)) ^^^ ((~~~(((rounds h (sched (bufL bs) 64) t).at) 4)) &&& (((rounds h (sched (bufL bs) 64) t).at) 6)))) + (keyF t)) + ((sched (bufL bs) 64) t))))), (5, (v32 (((rounds h (sched (bufL bs) 64) t).at) 4))), (6, (v32 (((rounds h (sched (bufL bs) 64) t).at) 5))), (7, (v32 (((rounds h (sched (bufL bs) 64) t).at) 6)))]) (v := .agg [(v32 ((((((((rounds h (sched (bufL bs) 64) t).at) 7) + (((rotl (((rounds h (sched (bufL bs) 64) t).at) 4) 26) ^^^ (rotl (((rounds h (sched (bufL bs) 64) t).at) 4) 21)) ^^^ (rotl (((rounds h (sched (bufL bs) 64) t).at) 4) 7))) + (((((rounds h (sched (bufL bs) 64) t).at) 4) &&& (((rounds h (sched (bufL bs) 64) t).at) 5)) ^^^ ((~~~(((rounds h (sched (bufL bs) 64) t).at) 4)) &&& (((rounds h (sched (bufL bs) 64) t).at) 6)))) + (keyF t)) + ((sched (bufL bs) 64) t)) + ((((rotl (((rounds h (sched (bufL bs) 64) t).at) 0) 30) ^^^ (rotl (((rounds h (sched (bufL bs) 64) t).at) 0) 19)) ^^^ (rotl (((rounds h (sched (bufL bs) 64) t).at) 0) 10)) + ((((((rounds h (sched (bufL bs) 64) t).at) 0) &&& (((rounds h (sched (bufL bs) 64) t).at) 1)) ^^^ ((((rounds h (sched (bufL bs) 64) t).at) 0) &&& (((rounds h (sched (bufL bs) 64) t).at) 2))) ^^^ ((((rounds h (sched (bufL bs) 64) t).at) 1) &&& (((rounds h (sched (bufL bs) 64) t).at) 2)))))), (v32 (((rounds h (sched (bufL bs) 64) t).at) 0)), (v32 (((rounds h (sched (bufL bs) 64) t).at) 1)), (v32 (((rounds h (sched (bufL bs) 64) t).at) 2)), (v32 ((((rounds h (sched (bufL bs) 64) t).at) 3) + (((((((rounds h (sched (bufL bs) 64) t).at) 7) + (((rotl (((rounds h (sched (bufL bs) 64) t).at) 4) 26) ^^^ (rotl (((rounds h (sched (bufL bs) 64) t).at) 4) 21)) ^^^ (rotl (((rounds h (sched (bufL bs) 64) t).at) 4) 7))) + (((((rounds h (sched (bufL bs) 64) t).at) 4) &&& (((rounds h (sched (bufL bs) 64) t).at) 5)) ^^^ ((~~~(((rounds h (sched (bufL bs) 64) t).at) 4)) &&& (((rounds h (sched (bufL bs) 64) t).at) 6)))) + (keyF t)) + ((sched (bufL bs) 64) t)))), (v32 (((rounds h (sched (bufL bs) 64) t).at) 4)), (v32 (((rounds h (sched (bufL bs) 64) t).at) 5)), (v32 (((rounds h (sched (bufL bs) 64) t).at) 6))].toArray) hT rfl (fun _ => by kernel_rfl)) rfl rfl (by decide) ?_; clear hT; intro a hT
        refine l_do rfl ?_
        refine w_store hT hL 0 (c := arr32 8 ((rounds h (sched (bufL bs) 64) t).at)) rfl rfl Tryz.ty189 rfl (vs := [(v32 ((((((((rounds h (sched (bufL bs) 64) t).at) 7) + (((rotl (((rounds h (sched (bufL bs) 64) t).at) 4) 26) ^^^ (rotl (((rounds h (sched (bufL bs) 64) t).at) 4) 21)) ^^^ (rotl (((rounds h (sched (bufL bs) 64) t).at) 4) 7))) + (((((rounds h (sched (bufL bs) 64) t).at) 4) &&& (((rounds h (sched (bufL bs) 64) t).at) 5)) ^^^ ((~~~(((rounds h (sched (bufL bs) 64) t).at) 4)) &&& (((rounds h (sched (bufL bs) 64) t).at) 6)))) + (keyF t)) + ((sched (bufL bs) 64) t)) + ((((rotl (((rounds h (sched (bufL bs) 64) t).at) 0) 30) ^^^ (rotl (((rounds h (sched (bufL bs) 64) t).at) 0) 19)) ^^^ (rotl (((rounds h (sched (bufL bs) 64) t).at) 0) 10)) + ((((((rounds h (sched (bufL bs) 64) t).at) 0) &&& (((rounds h (sched (bufL bs) 64) t).at) 1)) ^^^ ((((rounds h (sched (bufL bs) 64) t).at) 0) &&& (((rounds h (sched (bufL bs) 64) t).at) 2))) ^^^ ((((rounds h (sched (bufL bs) 64) t).at) 1) &&& (((rounds h (sched (bufL bs) 64) t).at) 2)))))), (v32 (((rounds h (sched (bufL bs) 64) t).at) 0)), (v32 (((rounds h (sched (bufL bs) 64) t).at) 1)), (v32 (((rounds h (sched (bufL bs) 64) t).at) 2)), (v32 ((((rounds h (sched (bufL bs) 64) t).at) 3) + (((((((rounds h (sched (bufL bs) 64) t).at) 7) + (((rotl (((rounds h (sched (bufL bs) 64) t).at) 4) 26) ^^^ (rotl (((rounds h (sched (bufL bs) 64) t).at) 4) 21)) ^^^ (rotl (((rounds h (sched (bufL bs) 64) t).at) 4) 7))) + (((((rounds h (sched (bufL bs) 64) t).at) 4) &&& (((rounds h (sched (bufL bs) 64) t).at) 5)) ^^^ ((~~~(((rounds h (sched (bufL bs) 64) t).at) 4)) &&& (((rounds h (sched (bufL bs) 64) t).at) 6)))) + (keyF t)) + ((sched (bufL bs) 64) t)))), (v32 (((rounds h (sched (bufL bs) 64) t).at) 4)), (v32 (((rounds h (sched (bufL bs) 64) t).at) 5)), (v32 (((rounds h (sched (bufL bs) 64) t).at) 6))]) rfl rfl (by first | decide | (simp [arr32_len, arr8_len, digC_len]; done) | (simp [arr32_len, arr8_len, digC_len]; omega)) rfl (c' := [(v32 ((((((((rounds h (sched (bufL bs) 64) t).at) 7) + (((rotl (((rounds h (sched (bufL bs) 64) t).at) 4) 26) ^^^ (rotl (((rounds h (sched (bufL bs) 64) t).at) 4) 21)) ^^^ (rotl (((rounds h (sched (bufL bs) 64) t).at) 4) 7))) + (((((rounds h (sched (bufL bs) 64) t).at) 4) &&& (((rounds h (sched (bufL bs) 64) t).at) 5)) ^^^ ((~~~(((rounds h (sched (bufL bs) 64) t).at) 4)) &&& (((rounds h (sched (bufL bs) 64) t).at) 6)))) + (keyF t)) + ((sched (bufL bs) 64) t)) + ((((rotl (((rounds h (sched (bufL bs) 64) t).at) 0) 30) ^^^ (rotl (((rounds h (sched (bufL bs) 64) t).at) 0) 19)) ^^^ (rotl (((rounds h (sched (bufL bs) 64) t).at) 0) 10)) + ((((((rounds h (sched (bufL bs) 64) t).at) 0) &&& (((rounds h (sched (bufL bs) 64) t).at) 1)) ^^^ ((((rounds h (sched (bufL bs) 64) t).at) 0) &&& (((rounds h (sched (bufL bs) 64) t).at) 2))) ^^^ ((((rounds h (sched (bufL bs) 64) t).at) 1) &&& (((rounds h (sched (bufL bs) 64) t).at) 2)))))), (v32 (((rounds h (sched (bufL bs) 64) t).at) 0)), (v32 (((rounds h (sched (bufL bs) 64) t).at) 1)), (v32 (((rounds h (sched (bufL bs) 64) t).at) 2)), (v32 ((((rounds h (sched (bufL bs) 64) t).at) 3) + (((((((rounds h (sched (bufL bs) 64) t).at) 7) + (((rotl (((rounds h (sched (bufL bs) 64) t).at) 4) 26) ^^^ (rotl (((rounds h (sched (bufL bs) 64) t).at) 4) 21)) ^^^ (rotl (((rounds h (sched (bufL bs) 64) t).at) 4) 7))) + (((((rounds h (sched (bufL bs) 64) t).at) 4) &&& (((rounds h (sched (bufL bs) 64) t).at) 5)) ^^^ ((~~~(((rounds h (sched (bufL bs) 64) t).at) 4)) &&& (((rounds h (sched (bufL bs) 64) t).at) 6)))) + (keyF t)) + ((sched (bufL bs) 64) t)))), (v32 (((rounds h (sched (bufL bs) 64) t).at) 4)), (v32 (((rounds h (sched (bufL bs) 64) t).at) 5)), (v32 (((rounds h (sched (bufL bs) 64) t).at) 6))]) rfl ?_; clear hL; intro w28 hL hE
        replace hL : Vg.Loc [] w0 w28 ([[(b4, ob [(v32 ((((((((rounds h (sched (bufL bs) 64) t).at) 7) + (((rotl (((rounds h (sched (bufL bs) 64) t).at) 4) 26) ^^^ (rotl (((rounds h (sched (bufL bs) 64) t).at) 4) 21)) ^^^ (rotl (((rounds h (sched (bufL bs) 64) t).at) 4) 7))) + (((((rounds h (sched (bufL bs) 64) t).at) 4) &&& (((rounds h (sched (bufL bs) 64) t).at) 5)) ^^^ ((~~~(((rounds h (sched (bufL bs) 64) t).at) 4)) &&& (((rounds h (sched (bufL bs) 64) t).at) 6)))) + (keyF t)) + ((sched (bufL bs) 64) t)) + ((((rotl (((rounds h (sched (bufL bs) 64) t).at) 0) 30) ^^^ (rotl (((rounds h (sched (bufL bs) 64) t).at) 0) 19)) ^^^ (rotl (((rounds h (sched (bufL bs) 64) t).at) 0) 10)) + ((((((rounds h (sched (bufL bs) 64) t).at) 0) &&& (((rounds h (sched (bufL bs) 64) t).at) 1)) ^^^ ((((rounds h (sched (bufL bs) 64) t).at) 0) &&& (((rounds h (sched (bufL bs) 64) t).at) 2))) ^^^ ((((rounds h (sched (bufL bs) 64) t).at) 1) &&& (((rounds h (sched (bufL bs) 64) t).at) 2)))))), (v32 (((rounds h (sched (bufL bs) 64) t).at) 0)), (v32 (((rounds h (sched (bufL bs) 64) t).at) 1)), (v32 (((rounds h (sched (bufL bs) 64) t).at) 2)), (v32 ((((rounds h (sched (bufL bs) 64) t).at) 3) + (((((((rounds h (sched (bufL bs) 64) t).at) 7) + (((rotl (((rounds h (sched (bufL bs) 64) t).at) 4) 26) ^^^ (rotl (((rounds h (sched (bufL bs) 64) t).at) 4) 21)) ^^^ (rotl (((rounds h (sched (bufL bs) 64) t).at) 4) 7))) + (((((rounds h (sched (bufL bs) 64) t).at) 4) &&& (((rounds h (sched (bufL bs) 64) t).at) 5)) ^^^ ((~~~(((rounds h (sched (bufL bs) 64) t).at) 4)) &&& (((rounds h (sched (bufL bs) 64) t).at) 6)))) + (keyF t)) + ((sched (bufL bs) 64) t)))), (v32 (((rounds h (sched (bufL bs) 64) t).at) 4)), (v32 (((rounds h (sched (bufL bs) 64) t).at) 5)), (v32 (((rounds h (sched (bufL bs) 64) t).at) 6))] 189)], [(b3, ob (arr32 64 (sched (bufL bs) 64)) 235)], [(b2, ob (arr32 8 (fun _ => 0)) 189)], [(b1, ob (arr32 8 h) 189)]]) := hL
        refine l_end ?_
        refine blk_norm ?_
        refine then_norm ?_
        refine c_region ?_
        refine l_q hT (q_move hT rfl) rfl rfl (by decide) ?_; clear hT; intro a hT
        refine l_q hT (q_addI hT rfl rfl (r := (t : Int) + 1) rfl (by omega) (by omega)) rfl rfl (by decide) ?_; clear hT; intro a hT
        refine l_q hT (q_assign hT rfl) rfl rfl (by decide) ?_; clear hT; intro a hT
        refine l_end ?_
        refine then_norm ?_
        exact ⟨_, ⟨t + 1, rfl, by omega, by omega, hT.keep [2, 4, 5, 10, 11] rfl, by have e := round_cells (rounds h (sched (bufL bs) 64) t) (keyF t) (sched (bufL bs) 64 t) (((((((rounds h (sched (bufL bs) 64) t).at) 7) + (((rotl (((rounds h (sched (bufL bs) 64) t).at) 4) 26) ^^^ (rotl (((rounds h (sched (bufL bs) 64) t).at) 4) 21)) ^^^ (rotl (((rounds h (sched (bufL bs) 64) t).at) 4) 7))) + (((((rounds h (sched (bufL bs) 64) t).at) 4) &&& (((rounds h (sched (bufL bs) 64) t).at) 5)) ^^^ ((~~~(((rounds h (sched (bufL bs) 64) t).at) 4)) &&& (((rounds h (sched (bufL bs) 64) t).at) 6)))) + (keyF t)) + ((sched (bufL bs) 64) t)) ((((rotl (((rounds h (sched (bufL bs) 64) t).at) 0) 30) ^^^ (rotl (((rounds h (sched (bufL bs) 64) t).at) 0) 19)) ^^^ (rotl (((rounds h (sched (bufL bs) 64) t).at) 0) 10)) + ((((((rounds h (sched (bufL bs) 64) t).at) 0) &&& (((rounds h (sched (bufL bs) 64) t).at) 1)) ^^^ ((((rounds h (sched (bufL bs) 64) t).at) 0) &&& (((rounds h (sched (bufL bs) 64) t).at) 2))) ^^^ ((((rounds h (sched (bufL bs) 64) t).at) 1) &&& (((rounds h (sched (bufL bs) 64) t).at) 2)))) rfl rfl; rw [show (arr32 8 ((rounds h (sched (bufL bs) 64) (t + 1))).at) = _ from e.symm]; exact hL⟩, by simp only [id]; omega⟩
      · skip
        have hc3 := of_decide_eq_false hc3
        obtain rfl : t = 64 := by omega
        refine wp_exit ?_
        refine then_exit ?_
        refine then_exit ?_
        refine blk_exit ?_
        refine then_norm ?_
        refine c_seq ?_
        refine c_seq ?_
        refine c_region ?_
        refine l_q hT (q_assign hT rfl) rfl rfl (by decide) ?_; clear hT; intro a hT
        refine l_end ?_
        refine then_norm ?_
        refine wp_block ?_
        refine c_loop (fun mz a wz => ∃ t : Nat, mz = 8 - t ∧ t ≤ 8 ∧ 0 ≤ t ∧ Tm 214 a [(2, (vp b1 0)), (4, (vp b2 0)), (10, (vp b4 0)), (16, (vI (t : Int)))] ∧ Vg.Loc [] w0 wz [[(b4, ob (arr32 8 ((rounds h (sched (bufL bs) 64) 64).at)) 189)], [(b3, ob (arr32 64 (sched (bufL bs) 64)) 235)], [(b2, ob (arr32 8 (fun _ => 0)) 189)], [(b1, ob (arr32 8 (mixTo h (rounds h (sched (bufL bs) 64) 64) t)) 189)]]) id (8 - 0) ?_ ?_
        · exact ⟨0, rfl, by omega, by omega, hT.keep [2, 4, 10, 16] rfl, hL⟩
        clear hT hL
        rintro mz a w29 ⟨t, rfl, ht, htl, hT, hL⟩
        refine c_seq ?_
        refine c_seq ?_
        refine c_region ?_
        refine l_q hT (q_move hT rfl) rfl rfl (by decide) ?_; clear hT; intro a hT
        refine l_q hT (q_lss hT rfl rfl) rfl rfl (by decide) ?_; clear hT; intro a hT
        refine l_end ?_
        refine then_norm ?_
        refine c_if hT rfl (fun hc4 => ?_) (fun hc4 => ?_)
        · skip
          have hc4 := of_decide_eq_true hc4
          refine wp_skip ?_
          refine then_norm ?_
          refine c_seq ?_
          refine wp_block ?_
          refine d_start' hL #[false, false, false, false, false, false, false, false, false, false] [9] rfl rfl rfl ?_; clear hL; intro w30 hL hE; have hR := hL; have hS := Ext.refl w30
          refine d_pure (i := 0) hT #[true, false, false, false, false, false, false, false, false, false] rfl (by kernel_rfl) rfl rfl (by decide) (fun _ _ _ h => h) (fun _ => q_move hT rfl) ?_; clear hT; intro a hT
          refine d_pure (i := 1) hT #[true, true, false, false, false, false, false, false, false, false] rfl (by kernel_rfl) rfl rfl (by decide) (fun _ _ _ h => h) (fun _ => q_move hT rfl) ?_; clear hT; intro a hT
          refine d_pure (i := 2) hT #[true, true, true, false, false, false, false, false, false, false] rfl (by kernel_rfl) rfl rfl (by decide) (fun _ _ _ h => h) (fun _ => (q_indexAddr_arr hT rfl rfl Tryz.arr189 (by omega) (by omega)).v (v := vp b1 (0 + t)) (by simp)) ?_; clear hT; intro a hT
          refine d_pure (i := 4) hT #[true, true, true, false, true, false, false, false, false, false] rfl (by kernel_rfl) rfl rfl (by decide) (fun _ _ _ h => h) (fun _ => q_move hT rfl) ?_; clear hT; intro a hT
          refine d_pure (i := 5) hT #[true, true, true, false, true, true, false, false, false, false] rfl (by kernel_rfl) rfl rfl (by decide) (fun _ _ _ h => h) (fun _ => (q_indexAddr_arr hT rfl rfl Tryz.arr189 (by omega) (by omega)).v (v := vp b4 (0 + t)) (by simp)) ?_; clear hT; intro a hT
          refine d_take (i := 3) hT #[true, true, true, true, true, true, false, false, false, false] rfl (by kernel_rfl) rfl rfl (by decide) (fun _ _ _ h => h) (fun _ hs => q_load hT rfl Tryz.ty188 (Rd.ext (Rd.at32 (hR.rd 3 rfl 0 (ds := arr32 8 (mixTo h (rounds h (sched (bufL bs) 64) 64) t)) rfl) (i := t) (by omega)) hs)) hS ?_; clear hT; intro a hT
          refine d_take (i := 6) hT #[true, true, true, true, true, true, true, false, false, false] rfl (by kernel_rfl) rfl rfl (by decide) (fun _ _ _ h => h) (fun _ hs => q_load hT rfl Tryz.ty188 (Rd.ext (Rd.at32 (hR.rd 0 rfl 0 (ds := arr32 8 ((rounds h (sched (bufL bs) 64) 64).at)) rfl) (i := t) (by omega)) hs)) hS ?_; clear hT; intro a hT
          refine d_pure (i := 7) hT #[true, true, true, true, true, true, true, true, false, false] rfl (by kernel_rfl) rfl rfl (by decide) (fun _ _ _ h => h) (fun _ => q_add32 (u := (mixTo h (rounds h (sched (bufL bs) 64) 64) t) t) (v := ((rounds h (sched (bufL bs) 64) 64).at) t) hT rfl rfl) ?_; clear hT; intro a hT
          refine d_pure (i := 8) hT #[true, true, true, true, true, true, true, true, true, false] rfl (by kernel_rfl) rfl rfl (by decide) (fun _ _ _ h => h) (fun _ => (q_indexAddr_arr hT rfl rfl Tryz.arr189 (by omega) (by omega)).v (v := vp b1 (0 + t)) (by simp)) ?_; clear hT; intro a hT
          refine d_one (i := 9) hT #[true, true, true, true, true, true, true, true, true, true] rfl (by kernel_rfl) rfl ?_
          refine w_store hT hL 3 (c := arr32 8 (mixTo h (rounds h (sched (bufL bs) 64) 64) t)) rfl rfl Tryz.ty188 rfl (vs := [(v32 (((mixTo h (rounds h (sched (bufL bs) 64) 64) t) t) + (((rounds h (sched (bufL bs) 64) 64).at) t)))]) rfl rfl (by simp [arr32_len, arr8_len, digC_len]; omega) rfl (c' := arr32 8 (upd (mixTo h (rounds h (sched (bufL bs) 64) 64) t) t (((mixTo h (rounds h (sched (bufL bs) 64) 64) t) t) + (((rounds h (sched (bufL bs) 64) 64).at) t)))) (lay_at (pre := []) (mid := arr32 8 (mixTo h (rounds h (sched (bufL bs) 64) 64) t)) (post := []) (i := t) (by simp [digC_arr]) (by simp [arr32_len, arr8_len, digC_len]) (by simp [arr32_len, arr8_len, digC_len]; omega) (lay_arr32 _ _ (by omega)) (by simp)) ?_; clear hL; intro w31 hL hE
          replace hL : Vg.Loc [] w0 w31 ([[(b4, ob (arr32 8 ((rounds h (sched (bufL bs) 64) 64).at)) 189)], [(b3, ob (arr32 64 (sched (bufL bs) 64)) 235)], [(b2, ob (arr32 8 (fun _ => 0)) 189)], [(b1, ob (arr32 8 (upd (mixTo h (rounds h (sched (bufL bs) 64) 64) t) t (((mixTo h (rounds h (sched (bufL bs) 64) 64) t) t) + (((rounds h (sched (bufL bs) 64) 64).at) t)))) 189)]]) := hL
          refine ⟨fun hn => absurd (by decide) hn, ?_⟩
          refine d_done (by kernel_rfl) ?_; clear hR hS
          refine blk_norm ?_
          refine then_norm ?_
          refine c_region ?_
          refine l_q hT (q_move hT rfl) rfl rfl (by decide) ?_; clear hT; intro a hT
          refine l_q hT (q_addI hT rfl rfl (r := (t : Int) + 1) rfl (by omega) (by omega)) rfl rfl (by decide) ?_; clear hT; intro a hT
          refine l_q hT (q_assign hT rfl) rfl rfl (by decide) ?_; clear hT; intro a hT
          refine l_end ?_
          refine then_norm ?_
          exact ⟨_, ⟨t + 1, rfl, by omega, by omega, hT.keep [2, 4, 10, 16] rfl, by rw [mixTo_succ]; exact hL⟩, by simp only [id]; omega⟩
        · skip
          have hc4 := of_decide_eq_false hc4
          obtain rfl : t = 8 := by omega
          refine wp_exit ?_
          refine then_exit ?_
          refine then_exit ?_
          refine blk_exit ?_
          refine then_norm ?_
          refine c_seq ?_
          refine c_region ?_
          refine l_q hT (q_load_agg hT rfl Tryz.ty189 (hL.rd 3 rfl 0 (ds := arr32 8 (mixTo h (rounds h (sched (bufL bs) 64) 64) 8)) rfl) rfl) rfl rfl (by decide) ?_; clear hT; intro a hT
          refine l_do rfl ?_
          refine w_store hT hL 2 (c := arr32 8 (fun _ => 0)) rfl rfl Tryz.ty189 rfl (vs := arr32 8 (mixTo h (rounds h (sched (bufL bs) 64) 64) 8)) rfl rfl (by first | decide | (simp [arr32_len, arr8_len, digC_len]; done) | (simp [arr32_len, arr8_len, digC_len]; omega)) rfl (c' := arr32 8 (mixTo h (rounds h (sched (bufL bs) 64) 64) 8)) rfl ?_; clear hL; intro w32 hL hE
          replace hL : Vg.Loc [] w0 w32 ([[(b4, ob (arr32 8 ((rounds h (sched (bufL bs) 64) 64).at)) 189)], [(b3, ob (arr32 64 (sched (bufL bs) 64)) 235)], [(b2, ob (arr32 8 (mixTo h (rounds h (sched (bufL bs) 64) 64) 8)) 189)], [(b1, ob (arr32 8 (mixTo h (rounds h (sched (bufL bs) 64) 64) 8)) 189)]]) := hL
          refine l_end ?_
          refine then_norm ?_
          refine wp_ret ?_
          refine c_ret (vs := [(Value.agg (arr32 8 (mixTo h (rounds h (sched (bufL bs) 64) 64) 8)).toArray)]) (rs := [.cell 4 189]) hT rfl (.agg rfl Tryz.ty189 (hL.rd 2 rfl 0 (ds := arr32 8 (mixTo h (rounds h (sched (bufL bs) 64) 64) 8)) rfl) rfl .nil) ?_
          exact ⟨by simp only [packed, mixTo_8], hL.drop⟩
end Go.Proofs.YtcaffacganffjaaGreatDoor
end
