/- '==' on digests and on structs of them. -/
import Derived.Test.YtcaffacganffjaaDoorVSlice
import Derived.Laws.StructEq
namespace Go.Vg
open Go

/-- Two values of a type are equal, or are not, at every depth from k on. -/
def EqR (P : Program) (k : Nat) (t : TypeId) (u v : Value) (b : Bool) : Prop := ∀ d w, (Op.equalIn (d + k) t u v).run P w = .ok b w

section
variable {P : Program}
theorem EqR.int {t : TypeId} {k' : IntKind} (h : P.underlying t = some (.int k')) (k : IntKind) (a b : Int) : EqR P 1 t (.int k a) (.int k b) (decide (a = b)) := fun d w => by
  rw [run_equalIn_int w d t k k' a b h]
  rfl
theorem EqR.bool {t : TypeId} (h : P.underlying t = some .bool) (a b : Bool) : EqR P 1 t (.bool a) (.bool b) (decide (a = b)) := fun d w => by
  rw [run_equalIn_bool' w d t a b h]
  cases a <;> cases b <;> rfl
theorem EqR.str {t : TypeId} (h : P.underlying t = some .string) (a b : ByteArray) : EqR P 1 t (.string a) (.string b) (decide (a = b)) := fun d w => by
  rw [run_equalIn_string w d t a b h]
  congr 1
  rw [ByteArray.toList_eq, ByteArray.toList_eq]
  by_cases h : a = b
  · subst h; simp
  · have : a.data.toList ≠ b.data.toList := fun e => h (by cases a; cases b; simp_all)
    simp only [h, decide_false]
    exact beq_eq_false_iff_ne.2 this
theorem EqR.up {k : Nat} {t : TypeId} {u v : Value} {b : Bool} (h : EqR P k t u v b) : EqR P (k + 1) t u v b := fun d w => by
  have := h (d + 1) w
  rwa [show d + 1 + k = d + (k + 1) from by omega] at this

theorem EqR.arr {t e : TypeId} {N k m : Nat} {g : Bool} {xs ys : Array Value} {u v : Nat → Value} {b : Nat → Bool} (ht : isArray P t = some (N, e, m, g))
    (hx : ∀ i, i < N → ∀ w, (part e xs (i * m)).run P w = .ok (u i) w) (hy : ∀ i, i < N → ∀ w, (part e ys (i * m)).run P w = .ok (v i) w) (hb : ∀ i, i < N → EqR P k e (u i) (v i) (b i)) :
    EqR P (k + 1) t (.agg xs) (.agg ys) ((List.range N).all b) := by
  obtain ⟨z, hu, hs⟩ := isArray_spec ht
  intro d w
  rw [show d + (k + 1) = (d + k) + 1 from by omega]
  simp only [Op.equalIn, Sem.run_bind, run_underlying hu, Result.andThen_ok, run_sizeOf hs]
  rw [Std.Legacy.Range.forIn_eq_forIn_range']
  simp only [Std.Legacy.Range.size, Nat.sub_zero, Nat.add_one_sub_one, Nat.div_one]
  rw [List.range_eq_range']
  have hl : ∀ i ∈ List.range' 0 N, i < N := fun i hi => by simp [List.mem_range'] at hi; omega
  revert hl
  generalize List.range' 0 N = l
  clear ht
  induction l generalizing w with
  | nil => intro _; simp
  | cons i r ih =>
    intro hl
    have hi := hl i (by simp)
    have ih' := ih w (fun j hj => hl j (by simp [hj]))
    simp only [List.forIn_cons, Sem.run_bind, hx i hi, hy i hi, Result.andThen_ok, hb i hi d, Sem.run_ite, Sem.run_pure, List.all_cons] at ih' ⊢
    cases b i
    · simp
    · simpa using ih'

theorem EqR.dig {t e : TypeId} (ht : isArray P t = some (32, e, 1, false)) (he : P.underlying e = some (.int .u8)) (x y : Dig) : EqR P 2 t (dv x) (dv y) (decide (x = y)) := by
  obtain ⟨z, hu, hs⟩ := isArray_spec ht
  have h := EqR.arr (k := 1) (u := fun i => v8 (x.get i)) (v := fun i => v8 (y.get i)) (b := fun i => decide (((x.get i).toNat : Int) = (y.get i).toNat)) (xs := (digC x).toArray) (ys := (digC y).toArray) ht
    (fun i hi w => run_part hs (by rw [Nat.mul_one]; exact digC_get x hi)) (fun i hi w => run_part hs (by rw [Nat.mul_one]; exact digC_get y hi)) (fun i _ => EqR.int he _ _ _)
  have e1 : (List.range 32).all (fun i => decide (((x.get i).toNat : Int) = (y.get i).toNat)) = decide (x = y) := by
    by_cases hxy : x = y
    · subst hxy; simp
    · simp only [hxy, decide_false]
      apply Bool.eq_false_iff.2
      intro hall
      apply hxy
      rw [List.all_eq_true] at hall
      apply digC_inj
      rw [digC_arr, digC_arr]
      refine arr8_congr fun i hi => ?_
      have := hall i (List.mem_range.2 hi)
      simp only [decide_eq_true_eq, Int.natCast_inj, UInt8.toNat_inj] at this
      exact this
  rw [e1] at h
  exact h

/-- The fields of a struct, one by one. -/
inductive EqFs (P : Program) (k : Nat) (xs ys : Array Value) : List Field → Bool → Prop where
  | nil : EqFs P k xs ys [] true
  | blank {f : Field} {fs : List Field} {b : Bool} (hn : f.name = "_") (hr : EqFs P k xs ys fs b) : EqFs P k xs ys (f :: fs) b
  | cons {f : Field} {fs : List Field} {u v : Value} {c b : Bool} (hn : f.name ≠ "_") (hx : ∀ w, (part f.type xs f.offset).run P w = .ok u w) (hy : ∀ w, (part f.type ys f.offset).run P w = .ok v w) (hc : EqR P k f.type u v c) (hr : EqFs P k xs ys fs b) : EqFs P k xs ys (f :: fs) (c && b)
theorem EqFs.run {k d : Nat} {xs ys : Array Value} {fs : List Field} {b : Bool} (h : EqFs P k xs ys fs b) (w : World) : (Op.eqFields (d + k) xs ys fs).run P w = .ok b w := by
  induction h generalizing w with
  | nil => simp [Op.eqFields]
  | blank hn _ ih => simp only [Op.eqFields, hn, ne_eq, not_true, if_false]; exact ih w
  | @cons f fs u v c b hn hx hy hc hr ih =>
    simp only [Op.eqFields, if_pos hn, Sem.run_bind, hx, hy, Result.andThen_ok, hc d w, Sem.run_ite, Sem.run_pure]
    cases c
    · simp
    · simpa using ih w
theorem EqR.struct {k : Nat} {t : TypeId} {xs ys : Array Value} {b : Bool} (ht : P.underlying t = some (.struct (P.fieldsOf t))) (hp : P.stoodInHeld t = false) (h : EqFs P k xs ys (P.fieldsOf t).toList b) : EqR P (k + 1) t (.agg xs) (.agg ys) b := fun d w => by
  rw [show d + (k + 1) = (d + k) + 1 from by omega, run_equalIn_struct w (d + k) t xs ys ht hp]
  exact h.run w

variable {n : Sh} {a : Act} {E : List (Nat × Value)} {w : World} {dst : Option Tmp} {ty : TypeId} {pos : String} {af : Array Edge} {gd : Option (Nat × Bool)} {t yt : TypeId} {x y : Operand}
theorem EqR.at_top {k : Nat} {u v : Value} {b : Bool} (h : EqR P k t u v b) (hk : k ≤ 10000) : (Op.equal t u v).run P w = .ok b w := by
  have := h (10000 - k) w
  rwa [show 10000 - k + k = 10000 from by omega] at this
theorem q_eq_agg (hT : Tm n a E) {k : Nat} {us vs : Array Value} {b : Bool} (hx : evO E x = some (.agg us)) (hy : evO E y = some (.agg vs)) (hm : P.eqGuardType P.depth t = false) (h : EqR P k t (.agg us) (.agg vs) b) (hk : k ≤ 10000) :
    QR P a w ⟨dst, .binOp .eql t x y yt, ty, pos, af, gd⟩ (.bool b) :=
  q_bin hT hx hy (run_eqGuard_agg w _ t x y us vs hm) (by simp only [binOp, Sem.run_bind, h.at_top hk, Result.andThen_ok, Sem.run_pure])
theorem q_ne_agg (hT : Tm n a E) {k : Nat} {us vs : Array Value} {b : Bool} (hx : evO E x = some (.agg us)) (hy : evO E y = some (.agg vs)) (hm : P.eqGuardType P.depth t = false) (h : EqR P k t (.agg us) (.agg vs) b) (hk : k ≤ 10000) :
    QR P a w ⟨dst, .binOp .neq t x y yt, ty, pos, af, gd⟩ (.bool (!b)) :=
  q_bin hT hx hy (run_eqGuard_agg w _ t x y us vs hm) (by simp only [binOp, Sem.run_bind, h.at_top hk, Result.andThen_ok, Sem.run_pure])
end
end Go.Vg
