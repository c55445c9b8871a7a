/- The examples that the statements ask. '==' on structs, field by field; '!=' on bool. What the types are. Printed by a program of the prover. -/
import Derived.Test.YtcaffacganffjaaDoorM5
import Derived.Test.YtcaffacganffjaaDoorM3
import Derived.Test.YtcaffacganffjaaDoorChecked
import Derived.KernelRfl

section
namespace Go.Vg
open Go

def dig1 (u : UInt8) : Dig := ⟨u :: List.replicate 31 0, rfl⟩
def aL : Leaf := ⟨Dig.zero, dig1 5⟩
def bL : Leaf := ⟨dig1 128, dig1 6⟩
theorem ab_root : rootE 32 [aL, bL] = 0 := by decide +kernel
theorem a_root : rootE 32 [aL] = 0 := by decide +kernel
theorem ab_go : goL 32 aL.p 257 [aL, bL] 0 = ([leafD 32 bL], [aL]) := by
  have h1 : diffL aL.p [aL, bL] 0 = [bL] := by decide +kernel
  have h2 : sameL aL.p [aL, bL] 0 = [aL] := by decide +kernel
  rw [show (257 : Nat) = 256 + 1 from rfl, goL_step (by decide), h1, h2, goL_end (by decide)]
  rfl
theorem a_go : goL 32 bL.p 257 [aL] 0 = ([], [aL]) := goL_end (by decide)
theorem a_says : saysL aL.p [aL] = (true, aL.v, false, Dig.zero, Dig.zero) := by simp [saysL]
theorem b_says : saysL bL.p [aL] = (false, Dig.zero, true, aL.p, aL.v) := by
  have : ¬ aL.p = bL.p := by decide +kernel
  simp [saysL, this]

theorem go_most (w : Int) (p : Dig) (ls : List Leaf) : ((goL w p 257 ls 0).1.length : Int) = (mostL p ls).2 + 1 := by
  have h := goL_len w p ls 257 0 rfl
  have h1 : (ls.filter fun l => decide (0 ≤ common l.p p)) = ls := List.filter_eq_self.2 fun _ _ => by simp
  rw [h1] at h
  have := most_all p ls
  omega
theorem most_bound (p : Dig) (ls : List Leaf) : -1 ≤ (mostL p ls).2 ∧ (mostL p ls).2 ≤ 256 := by
  have := most_all p ls
  omega
theorem most_take {p : Dig} {ls : List Leaf} {t : Nat} (h : t < ls.length) : mostL p (ls.take (t + 1)) = mostStep p (mostL p (ls.take t)) (ls.getD t noLeaf) := by
  rw [List.take_succ_eq_append_getElem h, mostL_snoc]
  simp [List.getD_eq_getElem?_getD, h]
section
variable {P : Program} {n : Sh} {a : Act} {E : List (Nat × Value)} {w : World} {dst : Option Nat} {ty : TypeId} {pos : String} {af : Array Edge} {gd : Option (Nat × Bool)}
theorem q_maxI (hT : Tm n a E) {x y : Operand} {ta : Array TypeId} {i j : Int} (hx : evO E x = some (vI i)) (hy : evO E y = some (vI j)) : QR P a w ⟨dst, .call { callee := .builtin .max, args := #[x, y], argTypes := ta }, ty, pos, af, gd⟩ (vI (max i j)) := by
  simp [QR, execOp, resolve, invoke, builtin, Builtin.max_, Builtin.max2, hT.ev hx, hT.ev hy]
  split <;> omega
end
end Go.Vg
end

section
namespace Go.Vg
open Go

/-- A struct's fields: type, place, size, is it a struct or an array; no blank one. -/
def fdsGo (P : Program) : List Field → Option (List (TypeId × Nat × Nat × Bool))
  | [] => some []
  | f :: r => if f.name = "_" then none else match tyOf P f.type, fdsGo P r with
    | some (m, g, _), some l => some ((f.type, f.offset, m, g) :: l)
    | _, _ => none
def fdsOf (P : Program) (t : TypeId) : Option (List (TypeId × Nat × Nat × Bool)) :=
  match P.underlying t with
  | some (.struct fs) => fdsGo P fs.toList
  | _ => none
inductive EqF2 (P : Program) (k : Nat) (xs ys : List Value) : List (TypeId × Nat × Nat × Bool) → Bool → Prop where
  | nil : EqF2 P k xs ys [] true
  | agg {t off m : Nat} {us vs : List Value} {c b : Bool} {r : List (TypeId × Nat × Nat × Bool)} (hx : (xs.drop off).take m = us) (hy : (ys.drop off).take m = vs) (hc : EqR P k t (.agg us.toArray) (.agg vs.toArray) c) (hr : EqF2 P k xs ys r b) : EqF2 P k xs ys ((t, off, m, true) :: r) (c && b)
  | one {t off m : Nat} {u v : Value} {c b : Bool} {r : List (TypeId × Nat × Nat × Bool)} (hx : xs[off]? = some u) (hy : ys[off]? = some v) (hc : EqR P k t u v c) (hr : EqF2 P k xs ys r b) : EqF2 P k xs ys ((t, off, m, false) :: r) (c && b)
theorem EqF2.fs {P : Program} {k : Nat} {xs ys : List Value} : ∀ {fs : List Field} {l : List (TypeId × Nat × Nat × Bool)} {b : Bool}, fdsGo P fs = some l → EqF2 P k xs ys l b → EqFs P k xs.toArray ys.toArray fs b
  | [], l, b, hl, h => by
    simp only [fdsGo, Option.some.injEq] at hl
    subst hl
    cases h
    exact .nil
  | f :: fs, l, b, hl, h => by
    simp only [fdsGo] at hl
    split at hl
    · cases hl
    · rename_i hn
      split at hl
      · rename_i m g z l' ht hl'
        simp only [Option.some.injEq] at hl
        subst hl
        cases h with
        | agg hx hy hc hr => exact .cons hn (fun w => run_part_agg ht hx) (fun w => run_part_agg ht hy) hc (EqF2.fs hl' hr)
        | one hx hy hc hr => exact .cons hn (fun w => run_part ht hx) (fun w => run_part ht hy) hc (EqF2.fs hl' hr)
      · cases hl
theorem EqR.struct2 {P : Program} {k : Nat} {t : TypeId} {xs ys : List Value} {l : List (TypeId × Nat × Nat × Bool)} {b : Bool} (hl : fdsOf P t = some l) (hp : P.stoodInHeld t = false) (h : EqF2 P k xs ys l b) : EqR P (k + 1) t (.agg xs.toArray) (.agg ys.toArray) b := by
  unfold fdsOf at hl
  split at hl
  · rename_i fs hu
    have hf : P.fieldsOf t = fs := by simp [Program.fieldsOf, hu]
    exact EqR.struct (by rw [hf]; exact hu) hp (by rw [hf]; exact EqF2.fs hl h)
  · cases hl
section
variable {P : Program} {n : Sh} {a : Act} {E : List (Nat × Value)} {w : World} {dst : Option Nat} {ty : TypeId} {pos : String} {af : Array Edge} {gd : Option (Nat × Bool)}
theorem q_ne_bool (hT : Tm n a E) {t yt : TypeId} {x y : Operand} {u v : Bool} (hx : evO E x = some (.bool u)) (hy : evO E y = some (.bool v)) (ht : P.underlying t = some .bool) : QR P a w ⟨dst, .binOp .neq t x y yt, ty, pos, af, gd⟩ (.bool (u != v)) :=
  q_bin hT hx hy (by simp [eqGuard]) (by simp only [binOp, Sem.run_bind, run_equal_bool u v ht, Result.andThen_ok, Sem.run_pure]; rfl)
end
end Go.Vg
end

section
namespace Go.Proofs.YtcaffacganffjaaDoor
open Go Go.Vg
set_option maxRecDepth 100000
theorem Tryd.ty3 : tyOf Tryd.prog 3 = some (1, false, [(vI 0)]) := by kernel_rfl
theorem Tryd.ty4 : tyOf Tryd.prog 4 = some (1, false, [(Value.bool false)]) := by kernel_rfl
theorem Tryd.ty5 : tyOf Tryd.prog 5 = some (1, false, [(v8 0)]) := by kernel_rfl
theorem Tryd.ty21 : tyOf Tryd.prog 21 = some (1, false, [(Value.int .i32 0)]) := by kernel_rfl
theorem Tryd.ty24 : tyOf Tryd.prog 24 = some (32, true, digC Dig.zero) := by kernel_rfl
theorem Tryd.ty26 : tyOf Tryd.prog 26 = some (33, true, [(Value.bool false)] ++ (digC Dig.zero)) := by kernel_rfl
theorem Tryd.ty27 : tyOf Tryd.prog 27 = some (1, false, [(Value.slice none 0 0)]) := by kernel_rfl
theorem Tryd.ty29 : tyOf Tryd.prog 29 = some (66, true, [(Value.slice none 0 0), (Value.bool false)] ++ (digC Dig.zero ++ (digC Dig.zero))) := by kernel_rfl
theorem Tryd.ty36 : tyOf Tryd.prog 36 = some (64, true, digC Dig.zero ++ (digC Dig.zero)) := by kernel_rfl
theorem Tryd.ty54 : tyOf Tryd.prog 54 = some (132, true, [(vI 0)] ++ (digC Dig.zero ++ ([(Value.bool false)] ++ (digC Dig.zero ++ ([(Value.slice none 0 0), (Value.bool false)] ++ (digC Dig.zero ++ (digC Dig.zero))))))) := by kernel_rfl
theorem Tryd.ty63 : tyOf Tryd.prog 63 = some (1, false, [(Value.pointer none)]) := by kernel_rfl
theorem Tryd.ty73 : tyOf Tryd.prog 73 = some (1, false, [(Value.slice none 0 0)]) := by kernel_rfl
theorem Tryd.ty86 : tyOf Tryd.prog 86 = some (1, false, [(v32 0)]) := by kernel_rfl
theorem Tryd.ty100 : tyOf Tryd.prog 100 = some (1, false, [Value.nilFunc]) := by kernel_rfl
theorem Tryd.ty110 : tyOf Tryd.prog 110 = some (73, true, arr32 8 (fun _ => 0) ++ (arr8 64 (fun _ => 0) ++ ([(vI 0)]))) := by kernel_rfl
theorem Tryd.ty111 : tyOf Tryd.prog 111 = some (72, true, arr8 72 (fun _ => 0)) := by kernel_rfl
theorem Tryd.ty119 : tyOf Tryd.prog 119 = some (64, true, arr32 64 (fun _ => 0)) := by kernel_rfl
theorem Tryd.app22 : appOf Tryd.prog 22 = some (36, 64, 64) := by kernel_rfl
theorem Tryd.app27 : appOf Tryd.prog 27 = some (24, 32, 32) := by kernel_rfl
theorem Tryd.app73 : appOf Tryd.prog 73 = some (5, 1, 1) := by kernel_rfl
theorem Tryd.arr24 : isArray Tryd.prog 24 = some (32, 5, 1, false) := by kernel_rfl
theorem Tryd.arr107 : isArray Tryd.prog 107 = some (8, 86, 1, false) := by kernel_rfl
theorem Tryd.arr108 : isArray Tryd.prog 108 = some (64, 5, 1, false) := by kernel_rfl
theorem Tryd.arr111 : isArray Tryd.prog 111 = some (72, 5, 1, false) := by kernel_rfl
theorem Tryd.arr119 : isArray Tryd.prog 119 = some (64, 86, 1, false) := by kernel_rfl
theorem Tryd.eqg24 : Tryd.prog.eqGuardType Tryd.prog.depth 24 = false := by kernel_rfl
theorem Tryd.fld26_0 : fldOf Tryd.prog 26 0 = some (0, 0 + 1, false) := by kernel_rfl
theorem Tryd.fld26_1 : fldOf Tryd.prog 26 1 = some (1, 31 + 1, true) := by kernel_rfl
theorem Tryd.fld29_0 : fldOf Tryd.prog 29 0 = some (0, 0 + 1, false) := by kernel_rfl
theorem Tryd.fld29_1 : fldOf Tryd.prog 29 1 = some (1, 0 + 1, false) := by kernel_rfl
theorem Tryd.fld29_2 : fldOf Tryd.prog 29 2 = some (2, 31 + 1, true) := by kernel_rfl
theorem Tryd.fld29_3 : fldOf Tryd.prog 29 3 = some (34, 31 + 1, true) := by kernel_rfl
theorem Tryd.fld36_0 : fldOf Tryd.prog 36 0 = some (0, 31 + 1, true) := by kernel_rfl
theorem Tryd.fld36_1 : fldOf Tryd.prog 36 1 = some (32, 31 + 1, true) := by kernel_rfl
theorem Tryd.fld54_0 : fldOf Tryd.prog 54 0 = some (0, 0 + 1, false) := by kernel_rfl
theorem Tryd.fld54_1 : fldOf Tryd.prog 54 1 = some (1, 31 + 1, true) := by kernel_rfl
theorem Tryd.fld54_2 : fldOf Tryd.prog 54 2 = some (33, 32 + 1, true) := by kernel_rfl
theorem Tryd.fld54_3 : fldOf Tryd.prog 54 3 = some (66, 65 + 1, true) := by kernel_rfl
theorem Tryd.fld65_0 : fldOf Tryd.prog 65 0 = some (0, 0 + 1, false) := by kernel_rfl
theorem Tryd.fld65_1 : fldOf Tryd.prog 65 1 = some (1, 0 + 1, false) := by kernel_rfl
theorem Tryd.fld65_2 : fldOf Tryd.prog 65 2 = some (2, 0 + 1, false) := by kernel_rfl
theorem Tryd.fld88_1 : fldOf Tryd.prog 88 1 = some (0, 0 + 1, false) := by kernel_rfl
theorem Tryd.fld90_0 : fldOf Tryd.prog 90 0 = some (0, 0 + 1, false) := by kernel_rfl
theorem Tryd.fld92_1 : fldOf Tryd.prog 92 1 = some (0, 1 + 1, true) := by kernel_rfl
theorem Tryd.fld94_1 : fldOf Tryd.prog 94 1 = some (0, 0 + 1, true) := by kernel_rfl
theorem Tryd.fld94_2 : fldOf Tryd.prog 94 2 = some (1, 1 + 1, true) := by kernel_rfl
theorem Tryd.fld96_0 : fldOf Tryd.prog 96 0 = some (0, 2 + 1, true) := by kernel_rfl
theorem Tryd.fld96_1 : fldOf Tryd.prog 96 1 = some (3, 31 + 1, true) := by kernel_rfl
theorem Tryd.fld98_0 : fldOf Tryd.prog 98 0 = some (0, 34 + 1, true) := by kernel_rfl
theorem Tryd.fld98_1 : fldOf Tryd.prog 98 1 = some (35, 63 + 1, true) := by kernel_rfl
theorem Tryd.fld98_2 : fldOf Tryd.prog 98 2 = some (99, 0 + 1, false) := by kernel_rfl
theorem Tryd.fld98_3 : fldOf Tryd.prog 98 3 = some (100, 0 + 1, false) := by kernel_rfl
theorem Tryd.fld110_0 : fldOf Tryd.prog 110 0 = some (0, 7 + 1, true) := by kernel_rfl
theorem Tryd.fld110_1 : fldOf Tryd.prog 110 1 = some (8, 63 + 1, true) := by kernel_rfl
theorem Tryd.fld110_2 : fldOf Tryd.prog 110 2 = some (72, 0 + 1, false) := by kernel_rfl
theorem Tryd.sli22 : isSlice Tryd.prog 22 = some (36, 64) := by kernel_rfl
theorem Tryd.sli27 : isSlice Tryd.prog 27 = some (24, 32) := by kernel_rfl
theorem Tryd.sli73 : isSlice Tryd.prog 73 = some (5, 1) := by kernel_rfl
end Go.Proofs.YtcaffacganffjaaDoor
end
