/- The document's proof is the program's: halves of leaves, what is left, what is said. What a proof's check reckons, in plain functions; what is made is right. The walks of a part of the program: GSha1. Printed by a program of the prover. -/
import Derived.Test.YtcaffacganffjaaDoorM8
import Derived.Test.YtcaffacganffjaaDoorM5
import Derived.Test.YtcaffacganffjaaDoorM7
import Derived.Test.YtcaffacganffjaaDoorM2
import Derived.Test.YtcaffacganffjaaDoorM6

section
namespace Go.Vg
open Go
theorem half_zeros (ls : List Leaf) (n : Nat) : halfL ls n false = zerosL ls n := by
  unfold halfL zerosL; congr 1; funext l; cases l.p.bit n <;> rfl
theorem half_ones (ls : List Leaf) (n : Nat) : halfL ls n true = onesL ls n := by
  unfold halfL onesL; congr 1; funext l; cases l.p.bit n <;> rfl
theorem half_same (p : Dig) (ls : List Leaf) (n : Nat) : halfL ls n (p.bit n) = sameL p ls n := rfl
theorem half_diff (p : Dig) (ls : List Leaf) (n : Nat) : halfL ls n (!p.bit n) = diffL p ls n := by
  unfold halfL diffL; congr 1; funext l; cases l.p.bit n <;> cases p.bit n <;> rfl
theorem bitI_if (b : Bool) : (if b then (1 : Int) else 0) = bitI b := rfl
theorem bitI_not (b : Bool) : 1 - bitI b = bitI (!b) := by cases b <;> rfl
theorem half_len (ls : List Leaf) (n : Nat) (b : Bool) : (halfL ls n b).length ≤ ls.length := List.length_filter_le _ _
theorem getL_same (p : Dig) (n : Nat) : ∀ S : List Leaf, getL (sameL p S n) p = getL S p := by
  intro S
  unfold getL sameL
  congr 1
  rw [List.find?_filter]
  congr 1
  funext l
  by_cases h : l.p = p
  · subst h; simp
  · simp [h]
theorem getL_go (w : Int) (p : Dig) : ∀ (k : Nat) (S : List Leaf) (n : Nat), getL (goL w p k S n).2 p = getL S p
  | 0, S, n => rfl
  | k + 1, S, n => by
    by_cases h : S.length ≤ 1
    · rw [goL_end h]
    · rw [goL_step (by omega), getL_go w p k, getL_same]
theorem says_get (p : Dig) (S : List Leaf) : (saysL p S).1 = (getL (S.take 1) p).2 ∧ (saysL p S).2.1 = (getL (S.take 1) p).1 := by
  cases S with
  | nil => exact ⟨rfl, rfl⟩
  | cons x r =>
    by_cases h : x.p = p <;> simp [saysL, getL, h]
theorem dg_rev (w : Int) (ls : List Leaf) : dg w 257 ls.reverse 0 = dg w 257 ls 0 := dg_perm w 257 _ _ 0 (List.reverse_perm ls)
def cpTo (d : Dig) (t : Nat) : Nat → UInt8 := fun i => if i < t then d.get i else 0
theorem cpTo_zero (d : Dig) : digC Dig.zero = arr8 32 (cpTo d 0) := by
  refine arr8_congr fun i hi => ?_
  have e : Dig.zero.get i = 0 := by
    show (List.replicate 32 (0 : UInt8)).getD i 0 = 0
    rw [List.getD_eq_getElem?_getD, List.getElem?_replicate]
    split <;> rfl
  rw [e]
  simp [cpTo]
theorem cpTo_succ (d : Dig) (t : Nat) : cpTo d (t + 1) = upd (cpTo d t) t (d.get t) := by
  funext j
  simp only [cpTo, upd]
  by_cases h1 : j = t
  · subst h1; rw [if_pos (by omega), if_pos rfl]
  · rw [if_neg h1]
    by_cases h2 : j < t
    · rw [if_pos h2, if_pos (by omega)]
    · rw [if_neg h2, if_neg (by omega)]
theorem cpTo_all (d : Dig) (wn : Nat) (h : wn ≤ 32) : arr8 32 (cpTo d wn) = digC (shortD (wn : Int) d) := by
  unfold shortD
  rw [digC_of]
  refine arr8_congr fun i hi => ?_
  unfold cpTo
  by_cases h1 : i < wn
  · rw [if_pos h1, if_pos ⟨by omega, by omega, by omega⟩]
  · rw [if_neg h1, if_neg (by omega)]
def RefDigOK (P : Program) (f : FuncId) (w : Int) (fuel : Nat) : Prop := ∀ (ls : List Leaf) (p : Option Addr) (len cap n : Nat) (w0 : World), Key2At w0 → SlT w0 p len 64 leafC noLeaf ls → GoodL ls n → fuel + n = 257 → 1 ≤ fuel → len ≤ 4096 →
  Calls P f #[vI w, .slice p len cap, vI (n : Int)] w0 fun e w' => e = .returned (dv (dg w fuel ls n)) ∧ Ext w0 w'
theorem GoodL.half {ls : List Leaf} {n : Nat} (h : GoodL ls n) (b : Bool) : GoodL (halfL ls n b) (n + 1) := by
  cases b
  · rw [half_zeros]; exact h.zeros
  · rw [half_ones]; exact h.ones
theorem leaf_bytes (l : Leaf) : [0] ++ l.p.l ++ l.v.l = 0 :: catD [l.p, l.v] := by simp [catD]
theorem node_bytes (x y : Dig) : [1] ++ x.l ++ y.l = 1 :: catD [x, y] := by simp [catD]
theorem rootE_le {w : Int} {ls : List Leaf} (h : rootE w ls = 0) : ls.length ≤ 4096 := by
  unfold rootE at h
  split at h
  · cases h
  · split at h
    · cases h
    · omega
/-- A row that lies in old memory, or is one's own. -/
def RowOf {α : Type} (enc : α → List Value) (k : Nat) (d0 : α) (w0 : World) (T : TypeId) (p : Option Addr) (n cap : Nat) (l : List α) (c : Chunk) : Prop := (c = [] ∧ SlT w0 p n k enc d0 l) ∨ OwnE enc k T p n cap l c
section
variable {α : Type} {enc : α → List Value} {k : Nat} {d0 : α} {w0 w : World} {T : TypeId} {p : Option Addr} {n cap : Nat} {l : List α} {c : Chunk} {cs : List Chunk}
theorem RowOf.slt (h : RowOf enc k d0 w0 T p n cap l c) (hk : ∀ x, (enc x).length = k) (hL : Vg.Loc [] w0 w cs) {i : Nat} (hi : cs[i]? = some c) : SlT w p n k enc d0 l := by
  rcases h with ⟨_, h⟩ | h
  · exact h.ext hL
  · exact h.slt hk hL hi
theorem RowOf.len (h : RowOf enc k d0 w0 T p n cap l c) : l.length = n := by
  rcases h with ⟨_, h⟩ | h
  · exact h.1
  · exact h.len
end
theorem says_there {S : List Leaf} {pt : Dig} (h1 : S.length ≤ 1) (h : (getL S pt).2 = true) : saysL pt S = (true, (getL S pt).1, false, Dig.zero, Dig.zero) := by
  match S, h1 with
  | [], _ => cases h
  | [x], _ =>
    by_cases hx : x.p = pt
    · simp [saysL, getL, hx]
    · simp [getL, hx] at h
theorem says_other {x : Leaf} {pt : Dig} (h : (getL [x] pt).2 = false) : saysL pt [x] = (false, Dig.zero, true, x.p, x.v) ∧ getL [x] pt = (Dig.zero, false) := by
  by_cases hx : x.p = pt
  · simp [getL, hx] at h
  · simp [saysL, getL, hx]
end Go.Vg
end

section
namespace Go.Vg
open Go
/-- A claim about a path, with its proof. -/
structure Said where
  (w : Int) (p : Dig) (pr : Bool) (v : Dig) (ds : List Dig) (o : Bool) (ox ov : Dig)
def Said.may (s : Said) : Bool :=
  if 256 < s.ds.length ∨ (s.pr = false ∧ s.v ≠ Dig.zero) then false
  else if s.o = false then decide (s.ox = Dig.zero) && decide (s.ov = Dig.zero)
  else !s.pr && !decide (s.ox = s.p) && decide ((s.ds.length : Int) ≤ (common s.p s.ox : Int))
def Said.start (s : Said) : List UInt8 := if s.pr then 0 :: catD [s.p, s.v] else if s.o then 0 :: catD [s.ox, s.ov] else [2]
/-- What is summed behind k siblings, from the last one on. -/
def Said.rb (s : Said) : Nat → List UInt8
  | 0 => s.start
  | k + 1 => if s.p.bit (s.ds.length - 1 - k) then 1 :: catD [s.ds.getD (s.ds.length - 1 - k) Dig.zero, shortD s.w (sha (s.rb k))] else 1 :: catD [shortD s.w (sha (s.rb k)), s.ds.getD (s.ds.length - 1 - k) Dig.zero]
theorem Said.rb_succ (s : Said) (k : Nat) : s.rb (k + 1) = if s.p.bit (s.ds.length - 1 - k) then 1 :: catD [s.ds.getD (s.ds.length - 1 - k) Dig.zero, shortD s.w (sha (s.rb k))] else 1 :: catD [shortD s.w (sha (s.rb k)), s.ds.getD (s.ds.length - 1 - k) Dig.zero] := rfl
theorem Said.start_len (s : Said) : s.start.length ≤ 65 := by
  unfold Said.start
  split
  · simp [catD_len]
  · split
    · simp [catD_len]
    · simp
theorem Said.rb_len (s : Said) : ∀ k, (s.rb k).length ≤ 65
  | 0 => s.start_len
  | k + 1 => by unfold Said.rb; split <;> simp [catD_len]
def Said.top (s : Said) : Dig := shortD s.w (sha (s.rb s.ds.length))
theorem catD_snoc (ds : List Dig) (t : Nat) (h : t < ds.length) : catD (ds.take (t + 1)) = catD (ds.take t) ++ (ds.getD t Dig.zero).l := (catD_take_succ ds t h).symm
/-- From the end of the siblings up to the root. -/
def climb (w : Int) (p : Dig) : List Dig → Nat → Dig → Dig
  | [], _, s => s
  | d :: r, i, s => if p.bit i then nodeD w d (climb w p r (i + 1) s) else nodeD w (climb w p r (i + 1) s) d
theorem Said.rb_climb (s : Said) : ∀ k, k ≤ s.ds.length → shortD s.w (sha (s.rb k)) = climb s.w s.p (s.ds.drop (s.ds.length - k)) (s.ds.length - k) (shortD s.w (sha s.start))
  | 0, _ => by simp [climb, Said.rb]
  | k + 1, hk => by
    have ih := s.rb_climb k (by omega)
    have hd : s.ds.drop (s.ds.length - (k + 1)) = s.ds.getD (s.ds.length - 1 - k) Dig.zero :: s.ds.drop (s.ds.length - k) := by
      rw [List.drop_eq_getElem_cons (by omega)]
      simp only [List.getD_eq_getElem?_getD]
      rw [List.getElem?_eq_getElem (by omega)]
      simp only [Option.getD_some]
      congr 1
      · congr 1; omega
      · congr 1; omega
    rw [hd]
    simp only [climb]
    rw [show s.ds.length - (k + 1) = s.ds.length - 1 - k from by omega, show s.ds.length - 1 - k + 1 = s.ds.length - k from by omega, ← ih]
    rw [Said.rb_succ]
    split <;> rfl
theorem Said.top_climb (s : Said) : s.top = climb s.w s.p s.ds 0 (shortD s.w (sha s.start)) := by
  have := s.rb_climb s.ds.length (Nat.le_refl _)
  simpa [Said.top] using this
/-- Climbing up the siblings of what was made gives the leaves' digest. -/
theorem climb_go (w : Int) (p : Dig) : ∀ (k : Nat) (S : List Leaf) (n : Nat), k + n = 257 → GoodL S n → climb w p (goL w p k S n).1 n (dg w (257 - (n + (goL w p k S n).1.length)) (goL w p k S n).2 (n + (goL w p k S n).1.length)) = dg w k S n
  | 0, S, n, h, _ => by
    simp only [goL, climb, List.length_nil, Nat.add_zero]
    rw [show 257 - n = 0 from by omega]
  | k + 1, S, n, h, hg => by
    by_cases hs : S.length ≤ 1
    · rw [goL_end hs]
      simp only [climb, List.length_nil, Nat.add_zero]
      rw [show 257 - n = k + 1 from by omega]
    · rw [goL_step (by omega)]
      simp only [climb, List.length_cons]
      have ih := climb_go w p k (sameL p S n) (n + 1) (by omega) (hg.same p)
      rw [show n + ((goL w p k (sameL p S n) (n + 1)).1.length + 1) = n + 1 + (goL w p k (sameL p S n) (n + 1)).1.length from by omega]
      rw [ih, dg_two (by omega), ← half_zeros, ← half_ones, ← half_same p S n, ← half_diff p S n]
      cases hb : p.bit n <;> rfl
theorem keys_mem {own : List Chunk} {i : Nat} {c : Chunk} (hi : own[i]? = some c) {x : Nat} (hx : x ∈ keys [c]) : x ∈ keys own := by
  have hc := List.mem_of_getElem? hi
  simp only [keys, List.flatten_cons, List.flatten_nil, List.append_nil, List.mem_map] at hx ⊢
  obtain ⟨q, hq, rfl⟩ := hx
  exact ⟨q, List.mem_flatten.2 ⟨c, hc, hq⟩, rfl⟩
section
variable {α : Type} {enc : α → List Value} {k : Nat} {T : TypeId} {p : Option Addr} {n cap : Nat} {l : List α} {c : Chunk} {M : List Nat} {w0 w : World} {own C bk : List Chunk}
theorem OwnE.apart_tail (h : OwnE enc k T p n cap l c) (hL : Vg.Loc M w0 w (own ++ C)) (i : Nat) (hi : own[i]? = .some c) : 0 < n → ∀ ad : Addr, p = .some ad → ad.block ∉ keys C := by
  intro h0 ad hp
  obtain ⟨g, junk, rfl, rfl⟩ := h.some h0
  cases hp
  exact hL.notin (keys_mem hi (by simp [keys]))
theorem OwnE.apart_mid (h : OwnE enc k T p n cap l c) (hL : Vg.Loc M w0 w (own ++ (C ++ bk))) (i : Nat) (hi : own[i]? = .some c) : 0 < n → ∀ ad : Addr, p = .some ad → ad.block ∉ keys C :=
  h.apart_tail (own := own) (C := C) (hL.sub (List.Sublist.append (List.Sublist.refl _) (List.sublist_append_left C bk))) i hi
end
theorem SlT.lt {α : Type} {w : World} {p : Option Addr} {len k : Nat} {enc : α → List Value} {d0 : α} {l : List α} (h : SlT w p len k enc d0 l) : 0 < len → ∀ ad : Addr, p = some ad → ad.block < w.heap.size := by
  intro h0 ad hp
  obtain ⟨b, off, hp', hr⟩ := h.2 h0
  rw [hp] at hp'
  cases hp'
  exact (hr 0 h0).lt
/-- The digest behind k rounds. -/
def Said.tp (s : Said) : Nat → Dig
  | 0 => Dig.zero
  | k + 1 => shortD s.w (sha (s.rb k))
theorem Said.tp_top (s : Said) : s.tp (s.ds.length + 1) = s.top := rfl
end Go.Vg
end

section
namespace Go.Proofs.YtcaffacganffjaaDoor
open Go Go.Vg


set_option maxRecDepth 20000 in
set_option maxHeartbeats 1000000 in
theorem rotl_spec (x : UInt32) (k : Int) (s : Nat) (hk : k = (s : Int) - 32) (h0 : 0 < s) (h1 : s < 32) (w0 : World) :
    Calls Tryd.prog 61 #[(v32 x), (vI k)] w0 fun e w' => e = .returned (v32 (rotl x s)) ∧ Ext w0 w' := by
  have hand : s = (18446744073709551584 + s) &&& 31 := by
    rw [show (31 : Nat) = 2 ^ 5 - 1 from rfl, Nat.and_two_pow_sub_one_eq_mod]; omega
  refine c_enter (n := 17) (args := [(v32 x), (vI k)]) Tryd.func61 rfl rfl (Nat.le_of_ble_eq_true rfl) rfl (fun a hT => ?_)
  simp only [List.zipIdx_cons, List.zipIdx_nil, List.map_cons, List.map_nil, Nat.reduceAdd] at hT
  have hL := Vg.Loc.refl [] w0
  refine c_seq ?_
  refine c_region ?_
  refine l_q hT (q_assign hT rfl) rfl rfl (by decide) ?_; clear hT; intro a hT
  refine l_end ?_
  refine then_norm ?_
  refine c_seq ?_
  refine c_region ?_
  refine l_q hT (q_move hT rfl) rfl rfl (by decide) ?_; clear hT; intro a hT
  refine l_q hT ((q_conv_int hT rfl Tryd.underlying3 Tryd.underlying115).v (v := .int .u64 ((18446744073709551584 + s : Nat) : Int)) (by rw [wrap_u64]; congr 1; omega)) rfl rfl (by decide) ?_; clear hT; intro a hT
  refine l_q hT ((q_bits (u := 18446744073709551584 + s) (v := 31) hT rfl rfl rfl (by simp only [IntKind.bits]; omega) (by decide) (.inl ⟨rfl, hand⟩))) rfl rfl (by decide) ?_; clear hT; intro a hT
  refine l_q hT (q_assign hT rfl) rfl rfl (by decide) ?_; clear hT; intro a hT
  refine l_end ?_
  refine then_norm ?_
  refine c_seq ?_
  refine c_region ?_
  refine l_q hT (q_move hT rfl) rfl rfl (by decide) ?_; clear hT; intro a hT
  refine l_q hT (q_move hT rfl) rfl rfl (by decide) ?_; clear hT; intro a hT
  refine l_q hT (q_shl32 (u := x) (s := s) hT rfl rfl (by omega)) rfl rfl (by decide) ?_; clear hT; intro a hT
  refine l_q hT (q_move hT rfl) rfl rfl (by decide) ?_; clear hT; intro a hT
  refine l_q hT (q_move hT rfl) rfl rfl (by decide) ?_; clear hT; intro a hT
  refine l_q hT ((q_sub hT rfl rfl).v (v := .int .u64 ((32 - s : Nat) : Int)) (by rw [wrap_u64]; congr 1; omega)) rfl rfl (by decide) ?_; clear hT; intro a hT
  refine l_q hT (q_shr32 (u := x) (s := 32 - s) hT rfl rfl (by omega)) rfl rfl (by decide) ?_; clear hT; intro a hT
  refine l_q hT (q_or32 (u := shl32 x s) (v := shr32 x (32 - s)) hT rfl rfl) rfl rfl (by decide) ?_; clear hT; intro a hT
  refine l_q hT (q_assign hT rfl) rfl rfl (by decide) ?_; clear hT; intro a hT
  refine l_end ?_
  refine then_norm ?_
  refine wp_ret ?_
  refine c_ret (vs := [(v32 ((shl32 x s) ||| (shr32 x (32 - s))))]) (rs := [.tmp 4]) hT rfl (.tmp rfl .nil) ?_
  exact ⟨rfl, hL.drop⟩

set_option maxRecDepth 20000 in
set_option maxHeartbeats 1000000 in
theorem New_spec  (w0 : World) :
    Calls Tryd.prog 38 #[] w0 fun e w' => ∃ b, e = .returned (vp b 0) ∧ Vg.Loc [] w0 w' [[(b, ob (arr32 8 ivF ++ (arr8 64 (fun _ => 0) ++ ([(vI 0)]))) 110)]] := by
  refine c_enter (n := 4) (args := []) Tryd.func38 rfl rfl (Nat.le_of_ble_eq_true rfl) rfl (fun a hT => ?_)
  simp only [List.zipIdx_cons, List.zipIdx_nil, List.map_cons, List.map_nil, Nat.reduceAdd] at hT
  have hL := Vg.Loc.refl [] w0
  refine c_seq ?_
  refine c_region ?_
  refine l_q hT (q_assign hT rfl) rfl rfl (by decide) ?_; clear hT; intro a hT
  refine l_end ?_
  refine then_norm ?_
  refine c_seq ?_
  refine c_region ?_
  refine l_q hT (q_build (ps := [(0, .const (.int .u32 1779033703)), (1, .const (.int .u32 3144134277)), (2, .const (.int .u32 1013904242)), (3, .const (.int .u32 2773480762)), (4, .const (.int .u32 1359893119)), (5, .const (.int .u32 2600822924)), (6, .const (.int .u32 528734635)), (7, .const (.int .u32 1541459225))]) (pv := [(0, (v32 1779033703)), (1, (v32 3144134277)), (2, (v32 1013904242)), (3, (v32 2773480762)), (4, (v32 1359893119)), (5, (v32 2600822924)), (6, (v32 528734635)), (7, (v32 1541459225))]) (v := .agg [(v32 1779033703), (v32 3144134277), (v32 1013904242), (v32 2773480762), (v32 1359893119), (v32 2600822924), (v32 528734635), (v32 1541459225)].toArray) hT rfl (fun _ => by kernel_rfl)) rfl rfl (by decide) ?_; clear hT; intro a hT
  refine l_q hT (q_build (ps := [(0, .tmp 1)]) (pv := [(0, (Value.agg [(v32 1779033703), (v32 3144134277), (v32 1013904242), (v32 2773480762), (v32 1359893119), (v32 2600822924), (v32 528734635), (v32 1541459225)].toArray))]) (v := .agg ([(v32 1779033703), (v32 3144134277), (v32 1013904242), (v32 2773480762), (v32 1359893119), (v32 2600822924), (v32 528734635), (v32 1541459225)] ++ (arr8 64 (fun _ => 0) ++ ([(vI 0)]))).toArray) hT rfl (fun _ => by kernel_rfl)) rfl rfl (by decide) ?_; clear hT; intro a hT
  refine l_do rfl ?_
  refine w_box hT hL (by decide) rfl (c := [(v32 1779033703), (v32 3144134277), (v32 1013904242), (v32 2773480762), (v32 1359893119), (v32 2600822924), (v32 528734635), (v32 1541459225)] ++ (arr8 64 (fun _ => 0) ++ ([(vI 0)]))) rfl ?_; clear hT hL; intro b1 a w1 hT hL hE hB
  refine l_q hT (q_assign hT rfl) rfl rfl (by decide) ?_; clear hT; intro a hT
  refine l_end ?_
  refine then_norm ?_
  refine wp_ret ?_
  refine c_ret (vs := [(vp b1 0)]) (rs := [.tmp 0]) hT rfl (.tmp rfl .nil) ?_
  exact ⟨_, rfl, hL⟩
end Go.Proofs.YtcaffacganffjaaDoor
end
