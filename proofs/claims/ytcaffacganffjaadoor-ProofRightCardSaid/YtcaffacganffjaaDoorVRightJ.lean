/- 'tabellionlaw06.ProofRight' gives true for every input: what is made is right against the root, for any path. No condition but the row's own: the laid table of the program's text, which the card ties. -/
import Derived.Test.YtcaffacganffjaaDoorM7
import Derived.Test.YtcaffacganffjaaDoorM19
import Derived.Test.YtcaffacganffjaaDoorCards
import Derived.Test.YtcaffacganffjaaDoorTie
namespace Go.Proofs.YtcaffacganffjaaDoor
open Go Go.Vg Go.ChangeShapes Go.WideShapes Go.ChangeAt Go.RowKit
set_option maxRecDepth 100000

theorem right_contract (H : Type) (enc : TypeId × Value → H) (W : World) (base : Nat) (args : Array Value) (ds gs : List (DataW H)) (before : List MemPlace)
    (hval : ∀ (j : Nat) t v, Tryd.f4.params[j]? = some t → args[j]? = some v → Value.okWide Tryd.prog W .any base t v)
    (hW : DataW.Whole enc Tryd.prog Tryd.f4.params.toList Rows.proofRightSpec.vars false W args.toList ds gs before) (hL : laidMetH Tryd.prog Rows.proofRightRow.laid W) :
    Calls Tryd.prog 4 args W fun e W' => ∃ v, e = .returned v ∧ Rows.proofRightSpec.post enc Tryd.prog Tryd.f4 false true false false W args v W' := by
  have hW' := hW
  obtain ⟨p, q, hA0, hV, rfl, hfz, hnd⟩ := hW
  have hA : DataW.TrodAll enc Tryd.prog W 0 (fun _ => true) true Tryd.f4.params.toList args.toList ds p := hA0
  rw [Tryd.params4] at hA hval
  obtain ⟨v0, vs0, d0, ds0, p0, q0, hargs, rfl, rfl, h0, r0⟩ := trodAll_cons hA
  obtain ⟨v1, vs1, d1, ds1, p1, q1, rfl, rfl, rfl, h1, r1⟩ := trodAll_cons r0
  obtain ⟨v2, vs2, d2, ds2, p2, q2, rfl, rfl, rfl, h2, r2⟩ := trodAll_cons r1
  obtain ⟨rfl, rfl, rfl⟩ := trodAll_nil r2
  obtain rfl : args = #[v0, v1, v2] := by cases args; simp_all
  obtain ⟨rfl, rfl⟩ := trodVars_none hV
  obtain ⟨n, rfl, rfl, rfl, hwn⟩ := open_int Tryd.underlying3 (hval 0 _ v0 rfl rfl) h0
  obtain ⟨sp, len, cap, ls, rfl, hsl⟩ := open_leaves (hval 1 _ v1 rfl rfl) h1
  obtain ⟨pt, rfl⟩ := open_dig (hval 2 _ v2 rfl rfl) h2
  have hK : KeysAt W := keysAt hL
  refine (pr_all n ls sp len cap pt W hK hsl).mono fun e W' ⟨he, hx⟩ => ?_
  subst he
  exact ⟨_, rfl, post_law laidOut (by decide +kernel) rfl hW' rfl Tryd.underlying4 rfl hx⟩

theorem right_met (os : Os) : laidMet Tryd.prog Rows.proofRightRow.laid ((laidWorld os).forCall (fun _ _ => 0) ⟨#[], #[vI 0, .slice none 0 0, dv Dig.zero], []⟩).memory :=
  laidMet_of_run' 8 (by kernel_rfl) (by kernel_rfl)
theorem right_reads (os : Os) {H : Type} (enc : TypeId × Value → H) : ∃ places, DataW.whole enc Tryd.prog ((laidWorld os).forCall (fun _ _ => 0) ⟨#[], #[vI 0, .slice none 0 0, dv Dig.zero], []⟩).memory Tryd.f4.params.toList Rows.proofRightSpec.vars false #[vI 0, Value.slice none 0 0, dv Dig.zero].toList 8 = some ([.lit (.int .i64 0), .nil, .agg (List.replicate 32 (.lit (.int .u8 0)))], [], places) :=
  ⟨[], by kernel_rfl⟩
theorem right_lifted (os : Os) (started : os.Started) (H : Type) (enc : TypeId × Value → H) (F : Stop.Interp) :
    ReturnsInHanded {} Tryd.checked os 4 .any ((OpenSpec.ofChange Rows.proofRightSpec).preRow enc Tryd.prog Tryd.f4 Rows.proofRightRow.domain false Rows.proofRightRow.laid) (((OpenSpec.ofChange Rows.proofRightSpec).at F).post enc Tryd.prog Tryd.f4 false true false false) := by
  obtain ⟨places, hx⟩ := right_reads os enc
  refine returnsInHanded_of_row (C := Tryd.checked) (s := OpenSpec.ofChange Rows.proofRightSpec) own started (by kernel_rfl) Tryd.func4
    (witness_row_at (enc := enc) (C := Tryd.checked) false (laidWorld os) #[vI 0, .slice none 0 0, dv Dig.zero] rfl (by kernel_rfl) (by kernel_rfl) (by kernel_rfl)
      (OpenSpec.preRow_of_cond 8 hx (by kernel_rfl) (fun k hk => by cases hk) (by kernel_rfl) (right_met os))) ?_
  intro W base args ds gs before hval hW _ _ _ hL _ _
  exact right_contract H enc W base args ds gs before hval hW hL

theorem right_said : Rows.ProofRightSaid :=
  OpenClaim.holds_of_cond 4 Tryd.f4 rfl rfl rfl rfl rfl rfl rfl ⟨rfl, rfl, rfl, rfl, rfl⟩ rfl rfl rfl rfl rfl (by kernel_rfl) Tryd.func4 (by kernel_rfl)
    (of_decide_eq_true (by kernel_rfl)) (by unfold Func.isWrapper; first | (rw [if_pos (by decide +kernel)]; kernel_rfl) | (rw [if_neg (by decide +kernel)]; exact ⟨rfl, rfl⟩))
    (fun os started H enc _ F => by rw [OpenClaim.pre_eq_preRow]; exact right_lifted os started H enc F)

theorem right_plain (f : FuncId) (fn : Func) (hf : Tryd.pinned.checked.prog.funcNamed "tabellion/tabellionlaw06.ProofRight" = some f) (hfn : Tryd.pinned.checked.prog.funcs[f]? = some fn) :
    false = Tryd.pinned.checked.prog.looks [] ∧ ∀ (j : Nat) t, fn.params[j]? = some t → Tryd.pinned.checked.prog.wantsStandIn t = false := by
  obtain rfl : f = 4 := Option.some.inj ((show Tryd.prog.funcNamed "tabellion/tabellionlaw06.ProofRight" = some 4 by kernel_rfl).symm.trans hf) |>.symm
  obtain rfl : fn = Tryd.f4 := (Option.some.inj (Tryd.func4.symm.trans hfn)).symm
  refine ⟨by kernel_rfl, fun j t ht => ?_⟩
  rw [Tryd.params4] at ht
  have hm := Array.mem_of_getElem? ht
  simp only [List.mem_toArray, List.mem_cons, List.not_mem_nil, or_false] at hm
  rcases hm with rfl | rfl | rfl
  · exact (show Tryd.prog.wantsStandIn 3 = false by kernel_rfl)
  · exact (show Tryd.prog.wantsStandIn 22 = false by kernel_rfl)
  · exact (show Tryd.prog.wantsStandIn 24 = false by kernel_rfl)

theorem proofRight_card : Rows.ProofRightCardSaid :=
  Claim7.holds_tied_plain_at .later [] _ _ _ _ right_said (fun _ h => by cases h) (by kernel_rfl) (fun _ h => by cases h) proofRight_row_tie rfl ⟨rfl, rfl⟩ (by kernel_rfl) rfl right_plain (by kernel_rfl)
#print axioms proofRight_card
end Go.Proofs.YtcaffacganffjaaDoor
