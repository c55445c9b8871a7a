/- The walks of a part of the program: GClone2. Printed by a program of the prover. -/
import Derived.Test.YtcaffacganffjaaDoorVDig
import Derived.Test.YtcaffacganffjaaDoorVTypes
import Derived.Test.YtcaffacganffjaaDoorGClone
import Derived.Test.YtcaffacganffjaaDoorVOwn
namespace Go.Proofs.YtcaffacganffjaaDoor
open Go Go.Vg


set_option maxRecDepth 20000 in
set_option maxHeartbeats 1000000 in
theorem CloneE_some (ls : List Leaf) (ad : Addr) (len cap : Nat) (hc : len ≤ 4096) (w0 : World) (hsl : SlT w0 (some ad) len 64 leafC noLeaf ls) :
    Calls Tryd.prog 11 #[(Value.slice (some ad) len cap)] w0 fun e w' => ∃ p' cap' c, e = .returned (.slice p' len cap') ∧ Vg.Loc [] w0 w' [c] ∧ OwnE leafC 64 36 p' len cap' ls c := by
  refine c_enter (n := 8) (args := [(Value.slice (some ad) len cap)]) Tryd.func11 rfl rfl (Nat.le_of_ble_eq_true rfl) rfl (fun a hT => ?_)
  simp only [List.zipIdx_cons, List.zipIdx_nil, List.map_cons, List.map_nil, Nat.reduceAdd] at hT
  have hL := Vg.Loc.refl [] w0
  have hlen : ls.length = len := hsl.1
  refine c_seq ?_
  refine c_region ?_
  refine l_q hT (q_assign hT rfl) rfl rfl (by decide) ?_; clear hT; intro a hT
  refine l_end ?_
  refine then_norm ?_
  refine c_seq ?_
  refine c_seq ?_
  refine c_region ?_
  refine l_q hT (q_move hT rfl) rfl rfl (by decide) ?_; clear hT; intro a hT
  refine l_q hT ((q_eq_slnil hT rfl rfl Tryd.underlying22).b (b := false) rfl) rfl rfl (by decide) ?_; clear hT; intro a hT
  refine l_end ?_
  refine then_norm ?_
  refine c_false hT rfl rfl ?_
  refine wp_skip ?_
  refine then_norm ?_
  refine c_seq ?_
  refine c_region ?_
  refine l_do rfl ?_
  refine w_buildSlice (e := 36) (ps := []) (pv := []) (c := []) hT hL (by decide) rfl (fun _ => by kernel_rfl) ?_; clear hT hL; intro b1 a w1 hT hL hE hB
  refine l_q hT (q_move hT rfl) rfl rfl (by decide) ?_; clear hT; intro a hT
  refine l_do rfl ?_
  refine w_append hT hL (by decide) 0 rfl rfl rfl Tryd.app22 (by decide) rfl OwnC.empty (SlT.src leafC_len leafC_one (hsl.ext hL)) (by omega) (by simp only [maxLen]; omega) ?_; clear hT hL; intro p' cap' c' a w2 hown hT hL
  replace hL : Vg.Loc [] w0 w2 ([c']) := hL
  refine l_q hT (q_assign hT rfl) rfl rfl (by decide) ?_; clear hT; intro a hT
  refine l_end ?_
  refine then_norm ?_
  refine wp_ret ?_
  refine c_ret (vs := [(Value.slice p' (0 + len) cap')]) (rs := [.tmp 2]) hT rfl (.tmp rfl .nil) ?_
  exact ⟨p', cap', c', by simp [packed], by simpa using hL, hlen, by simpa using hown⟩

set_option maxRecDepth 20000 in
set_option maxHeartbeats 1000000 in
theorem CloneE_none (cap : Nat) (w0 : World) :
    Calls Tryd.prog 11 #[(Value.slice none 0 cap)] w0 fun e w' => e = .returned (.slice none 0 0) ∧ Ext w0 w' := by
  refine c_enter (n := 8) (args := [(Value.slice none 0 cap)]) Tryd.func11 rfl rfl (Nat.le_of_ble_eq_true rfl) rfl (fun a hT => ?_)
  simp only [List.zipIdx_cons, List.zipIdx_nil, List.map_cons, List.map_nil, Nat.reduceAdd] at hT
  have hL := Vg.Loc.refl [] w0
  refine c_seq ?_
  refine c_region ?_
  refine l_q hT (q_assign hT rfl) rfl rfl (by decide) ?_; clear hT; intro a hT
  refine l_end ?_
  refine then_norm ?_
  refine c_seq ?_
  refine c_seq ?_
  refine c_region ?_
  refine l_q hT (q_move hT rfl) rfl rfl (by decide) ?_; clear hT; intro a hT
  refine l_q hT ((q_eq_slnil hT rfl rfl Tryd.underlying22).b (b := true) rfl) rfl rfl (by decide) ?_; clear hT; intro a hT
  refine l_end ?_
  refine then_norm ?_
  refine c_true hT rfl rfl ?_
  refine c_seq ?_
  refine c_region ?_
  refine l_q hT (q_assign hT rfl) rfl rfl (by decide) ?_; clear hT; intro a hT
  refine l_end ?_
  refine then_norm ?_
  refine wp_ret ?_
  refine then_ret ?_
  refine c_ret (vs := [(Value.slice none 0 0)]) (rs := [.tmp 2]) hT rfl (.tmp rfl .nil) ?_
  exact ⟨rfl, hL.drop⟩

theorem CloneE_own (ls : List Leaf) (p : Option Addr) (len cap : Nat) (hc : len ≤ 4096) (w0 : World) (hsl : SlT w0 p len 64 leafC noLeaf ls) : Calls Tryd.prog 11 #[.slice p len cap] w0 fun e w' =>
    ∃ p' cap' c, e = .returned (.slice p' len cap') ∧ Vg.Loc [] w0 w' [c] ∧ OwnE leafC 64 36 p' len cap' ls c := by
  cases p with
  | some ad => exact CloneE_some ls ad len cap hc w0 hsl
  | none =>
    have h0 : len = 0 := by
      rcases Nat.eq_zero_or_pos len with h | h
      · exact h
      · obtain ⟨_, _, hp, _⟩ := hsl.2 h; cases hp
    subst h0
    have : ls = [] := List.eq_nil_of_length_eq_zero hsl.1
    subst this
    exact (CloneE_none cap w0).mono fun e w' ⟨h1, h2⟩ => ⟨none, 0, [], h1, h2.regroup (by simp), OwnE.nil⟩

end Go.Proofs.YtcaffacganffjaaDoor
