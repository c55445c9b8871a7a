/- 'tabellionlaw06.ProofMakes' gives true for every input: leaves have just the document's proof for a path, or are refused as the document says. No condition but the row's own: the two laid tables of the program's text, which the card ties. -/
import Derived.Test.YtcaffacganffjaaGreatDoorM8
import Derived.Test.YtcaffacganffjaaGreatDoorM20
import Derived.Test.YtcaffacganffjaaGreatDoorCards
import Derived.Test.YtcaffacganffjaaGreatDoorTie
namespace Go.Proofs.YtcaffacganffjaaGreatDoor
open Go Go.Vg Go.ChangeShapes Go.WideShapes Go.ChangeAt Go.RowKit
set_option maxRecDepth 100000

theorem makes_contract (H : Type) (enc : TypeId × Value → H) (W : World) (base : Nat) (args : Array Value) (ds gs : List (DataW H)) (before : List MemPlace)
    (hval : ∀ (j : Nat) t v, Tryz.f3.params[j]? = some t → args[j]? = some v → Value.okWide Tryz.prog W .any base t v)
    (hW : DataW.Whole enc Tryz.prog Tryz.f3.params.toList Rows.proofMakesSpec.vars false W args.toList ds gs before) (hL : laidMetH Tryz.prog Rows.proofMakesRow.laid W) :
    Calls Tryz.prog 3 args W fun e W' => ∃ v, e = .returned v ∧ Rows.proofMakesSpec.post enc Tryz.prog Tryz.f3 false true false false W args v W' := by
  have hW' := hW
  obtain ⟨p, q, hA0, hV, rfl, hfz, hnd⟩ := hW
  have hA : DataW.TrodAll enc Tryz.prog W 0 (fun _ => true) true Tryz.f3.params.toList args.toList ds p := hA0
  rw [Tryz.params3] at hA hval
  obtain ⟨v0, vs0, d0, ds0, p0, q0, hargs, rfl, rfl, h0, r0⟩ := trodAll_cons hA
  obtain ⟨v1, vs1, d1, ds1, p1, q1, rfl, rfl, rfl, h1, r1⟩ := trodAll_cons r0
  obtain ⟨v2, vs2, d2, ds2, p2, q2, rfl, rfl, rfl, h2, r2⟩ := trodAll_cons r1
  obtain ⟨rfl, rfl, rfl⟩ := trodAll_nil r2
  obtain rfl : args = #[v0, v1, v2] := by cases args; simp_all
  obtain ⟨rfl, rfl⟩ := trodVars_none hV
  obtain ⟨n, rfl, rfl, rfl, hwn⟩ := open_int Tryz.underlying3 (hval 0 _ v0 rfl rfl) h0
  obtain ⟨sp, len, cap, ls, rfl, hsl⟩ := open_leaves (hval 1 _ v1 rfl rfl) h1
  obtain ⟨pt, rfl⟩ := open_dig (hval 2 _ v2 rfl rfl) h2
  have hK : KeysAt W := keysAt hL
  have hK2 : Key2At W := key2At (laid_tail hL)
  refine (pm_all n ls sp len cap pt W hK hK2 hsl).mono fun e W' ⟨he, hx⟩ => ?_
  subst he
  exact ⟨_, rfl, post_law laidOut (by decide +kernel) rfl hW' rfl Tryz.underlying4 rfl hx⟩

theorem makes_met (os : Os) : laidMet Tryz.prog Rows.proofMakesRow.laid ((laidWorld2 os).forCall (fun _ _ => 0) ⟨#[], #[vI 0, .slice none 0 0, dv Dig.zero], []⟩).memory :=
  laidMet_of_run' 8 (by kernel_rfl) (by kernel_rfl)
theorem makes_reads (os : Os) {H : Type} (enc : TypeId × Value → H) : ∃ places, DataW.whole enc Tryz.prog ((laidWorld2 os).forCall (fun _ _ => 0) ⟨#[], #[vI 0, .slice none 0 0, dv Dig.zero], []⟩).memory Tryz.f3.params.toList Rows.proofMakesSpec.vars false #[vI 0, Value.slice none 0 0, dv Dig.zero].toList 8 = some ([.lit (.int .i64 0), .nil, .agg (List.replicate 32 (.lit (.int .u8 0)))], [], places) :=
  ⟨[], by kernel_rfl⟩
theorem makes_lifted (os : Os) (started : os.Started) (H : Type) (enc : TypeId × Value → H) (F : Stop.Interp) :
    ReturnsInHanded {} Tryz.checked os 3 .any ((OpenSpec.ofChange Rows.proofMakesSpec).preRow enc Tryz.prog Tryz.f3 Rows.proofMakesRow.domain false Rows.proofMakesRow.laid) (((OpenSpec.ofChange Rows.proofMakesSpec).at F).post enc Tryz.prog Tryz.f3 false true false false) := by
  obtain ⟨places, hx⟩ := makes_reads os enc
  refine returnsInHanded_of_row (C := Tryz.checked) (s := OpenSpec.ofChange Rows.proofMakesSpec) own started (by kernel_rfl) Tryz.func3
    (witness_row_at (enc := enc) (C := Tryz.checked) false (laidWorld2 os) #[vI 0, .slice none 0 0, dv Dig.zero] rfl (by kernel_rfl) (by kernel_rfl) (by kernel_rfl)
      (OpenSpec.preRow_of_cond 8 hx (by kernel_rfl) (fun k hk => by cases hk) (by kernel_rfl) (makes_met os))) ?_
  intro W base args ds gs before hval hW _ _ _ hL _ _
  exact makes_contract H enc W base args ds gs before hval hW hL

theorem makes_said : Rows.ProofMakesSaid :=
  OpenClaim.holds_of_cond 3 Tryz.f3 rfl rfl rfl rfl rfl rfl rfl ⟨rfl, rfl, rfl, rfl, rfl⟩ rfl rfl rfl rfl rfl (by kernel_rfl) Tryz.func3 (by kernel_rfl)
    (of_decide_eq_true (by kernel_rfl)) (by unfold Func.isWrapper; first | (rw [if_pos (by decide +kernel)]; kernel_rfl) | (rw [if_neg (by decide +kernel)]; exact ⟨rfl, rfl⟩))
    (fun os started H enc _ F => by rw [OpenClaim.pre_eq_preRow]; exact makes_lifted os started H enc F)

theorem makes_plain (f : FuncId) (fn : Func) (hf : Tryz.pinned.checked.prog.funcNamed "tabellion/tabellionlaw06.ProofMakes" = some f) (hfn : Tryz.pinned.checked.prog.funcs[f]? = some fn) :
    false = Tryz.pinned.checked.prog.looks [] ∧ ∀ (j : Nat) t, fn.params[j]? = some t → Tryz.pinned.checked.prog.wantsStandIn t = false := by
  obtain rfl : f = 3 := Option.some.inj ((show Tryz.prog.funcNamed "tabellion/tabellionlaw06.ProofMakes" = some 3 by kernel_rfl).symm.trans hf) |>.symm
  obtain rfl : fn = Tryz.f3 := (Option.some.inj (Tryz.func3.symm.trans hfn)).symm
  refine ⟨by kernel_rfl, fun j t ht => ?_⟩
  rw [Tryz.params3] at ht
  have hm := Array.mem_of_getElem? ht
  simp only [List.mem_toArray, List.mem_cons, List.not_mem_nil, or_false] at hm
  rcases hm with rfl | rfl | rfl
  · exact (show Tryz.prog.wantsStandIn 3 = false by kernel_rfl)
  · exact (show Tryz.prog.wantsStandIn 22 = false by kernel_rfl)
  · exact (show Tryz.prog.wantsStandIn 24 = false by kernel_rfl)

theorem proofMakes_card : Rows.ProofMakesCardSaid :=
  Claim7.holds_tied_plain_at .later [] _ _ _ _ makes_said (fun _ h => by cases h) (by kernel_rfl) (fun _ h => by cases h) proofMakes_row_tie rfl ⟨rfl, rfl⟩ (by kernel_rfl) rfl makes_plain (by kernel_rfl)
#print axioms proofMakes_card
end Go.Proofs.YtcaffacganffjaaGreatDoor
