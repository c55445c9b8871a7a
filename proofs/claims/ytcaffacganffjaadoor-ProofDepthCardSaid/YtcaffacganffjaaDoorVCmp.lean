/- Bytes compared. -/
import Derived.Test.YtcaffacganffjaaDoorVApp
import Derived.Test.YtcaffacganffjaaDoorVTree2
namespace Go.Vg
open Go

def cmpB (x y : UInt8) : Int := if x < y then -1 else if y < x then 1 else 0
def cmpL : List UInt8 → List UInt8 → Int
  | [], [] => 0
  | [], _ :: _ => -1
  | _ :: _, [] => 1
  | x :: xs, y :: ys => if cmpB x y = 0 then cmpL xs ys else cmpB x y
theorem cmpL_step {xs ys : List UInt8} {t : Nat} (h1 : t < xs.length) (h2 : t < ys.length) : cmpL (xs.drop t) (ys.drop t) = if cmpB (xs.getD t 0) (ys.getD t 0) = 0 then cmpL (xs.drop (t + 1)) (ys.drop (t + 1)) else cmpB (xs.getD t 0) (ys.getD t 0) := by
  rw [List.drop_eq_getElem_cons h1, List.drop_eq_getElem_cons h2]
  simp [cmpL, List.getD_eq_getElem?_getD, h1, h2]
theorem cmpL_end1 {xs ys : List UInt8} {t : Nat} (h1 : t < xs.length) (h2 : ys.length ≤ t) : cmpL (xs.drop t) (ys.drop t) = 1 := by
  rw [List.drop_eq_getElem_cons h1, List.drop_of_length_le h2]
  rfl
theorem cmpL_end2 {xs ys : List UInt8} {t : Nat} (h1 : xs.length ≤ t) : cmpL (xs.drop t) (ys.drop t) = if t < ys.length then -1 else 0 := by
  rw [List.drop_of_length_le h1]
  split
  · rename_i h; rw [List.drop_eq_getElem_cons h]; rfl
  · rename_i h; rw [List.drop_of_length_le (by omega)]; rfl

def valL : List UInt8 → Nat
  | [] => 0
  | x :: r => x.toNat * 256 ^ r.length + valL r
theorem valL_lt : ∀ l : List UInt8, valL l < 256 ^ l.length
  | [] => by simp [valL]
  | x :: r => by
    have h1 := valL_lt r
    have h2 := x.toNat_lt
    have h3 : (x.toNat + 1) * 256 ^ r.length ≤ 256 * 256 ^ r.length := Nat.mul_le_mul_right _ (by omega)
    rw [Nat.add_mul, Nat.one_mul] at h3
    simp only [valL, List.length_cons, Nat.pow_succ]
    omega
theorem cmpL_val : ∀ (xs ys : List UInt8), xs.length = ys.length → cmpL xs ys = if valL xs < valL ys then -1 else if valL ys < valL xs then 1 else 0
  | [], [], _ => rfl
  | [], _ :: _, h => by simp at h
  | _ :: _, [], h => by simp at h
  | x :: xs, y :: ys, h => by
    have hl : xs.length = ys.length := by simpa using h
    have ih := cmpL_val xs ys hl
    have h1 := valL_lt xs
    have h2 := valL_lt ys
    rw [hl] at h1
    simp only [valL, cmpL, hl]
    unfold cmpB
    rcases Nat.lt_trichotomy x.toNat y.toNat with hxy | hxy | hxy
    · have hlt : x < y := hxy
      have h3 : (x.toNat + 1) * 256 ^ ys.length ≤ y.toNat * 256 ^ ys.length := Nat.mul_le_mul_right _ hxy
      rw [Nat.add_mul, Nat.one_mul] at h3
      rw [if_pos hlt, if_neg (by decide), if_pos (by omega)]
    · have hn1 : ¬ x < y := fun hh => by have : x.toNat < y.toNat := hh; omega
      have hn2 : ¬ y < x := fun hh => by have : y.toNat < x.toNat := hh; omega
      rw [if_neg hn1, if_neg hn2, if_pos rfl, ih, hxy]
      simp only [Nat.add_lt_add_iff_left]
    · have hlt : y < x := hxy
      have hn1 : ¬ x < y := fun hh => by have : x.toNat < y.toNat := hh; omega
      have h3 : (y.toNat + 1) * 256 ^ ys.length ≤ x.toNat * 256 ^ ys.length := Nat.mul_le_mul_right _ hxy
      rw [Nat.add_mul, Nat.one_mul] at h3
      rw [if_neg hn1, if_pos hlt, if_neg (by decide), if_neg (by omega), if_pos (by omega)]
theorem valL_inj : ∀ (xs ys : List UInt8), xs.length = ys.length → valL xs = valL ys → xs = ys
  | [], [], _, _ => rfl
  | [], _ :: _, h, _ => by simp at h
  | _ :: _, [], h, _ => by simp at h
  | x :: xs, y :: ys, h, hv => by
    have hl : xs.length = ys.length := by simpa using h
    have h1 := valL_lt xs
    have h2 := valL_lt ys
    rw [hl] at h1
    simp only [valL, hl] at hv
    have hxy : x.toNat = y.toNat := by
      rcases Nat.lt_trichotomy x.toNat y.toNat with q | q | q
      · have h3 : (x.toNat + 1) * 256 ^ ys.length ≤ y.toNat * 256 ^ ys.length := Nat.mul_le_mul_right _ q
        rw [Nat.add_mul, Nat.one_mul] at h3; omega
      · exact q
      · have h3 : (y.toNat + 1) * 256 ^ ys.length ≤ x.toNat * 256 ^ ys.length := Nat.mul_le_mul_right _ q
        rw [Nat.add_mul, Nat.one_mul] at h3; omega
    rw [hxy] at hv
    rw [UInt8.toNat_inj.1 hxy, valL_inj xs ys hl (by omega)]
def cmpLeaf (x y : Leaf) : Int := cmpL x.p.l y.p.l
def leafN (x : Leaf) : Nat := valL x.p.l
theorem cmpLeaf_val (x y : Leaf) : cmpLeaf x y = if leafN x < leafN y then -1 else if leafN y < leafN x then 1 else 0 := cmpL_val _ _ (by rw [x.p.h, y.p.h])
theorem leafN_inj {x y : Leaf} (h : leafN x = leafN y) : x.p = y.p := by
  have := valL_inj x.p.l y.p.l (by rw [x.p.h, y.p.h]) h
  cases hx : x.p; cases hy : y.p
  simp_all

section
variable {P : Program} {n : Sh} {a : Act} {E : List (Nat × Value)} {w : World} {dst : Option Nat} {ty : TypeId} {pos : String} {af : Array Edge} {gd : Option (Nat × Bool)}
theorem q_ls8 (hT : Tm n a E) {t yt : TypeId} {x y : Operand} {u v : UInt8} (hx : evO E x = some (v8 u)) (hy : evO E y = some (v8 v)) : QR P a w ⟨dst, .binOp .lss t x y yt, ty, pos, af, gd⟩ (.bool (decide (u < v))) := by
  refine (q_lss hT hx hy).v ?_
  congr 1
  exact decide_eq_decide.2 ⟨fun h => by have : u.toNat < v.toNat := by omega
                                        exact this, fun h => by have : u.toNat < v.toNat := h
                                                                omega⟩
theorem q_gt8 (hT : Tm n a E) {t yt : TypeId} {x y : Operand} {u v : UInt8} (hx : evO E x = some (v8 u)) (hy : evO E y = some (v8 v)) : QR P a w ⟨dst, .binOp .gtr t x y yt, ty, pos, af, gd⟩ (.bool (decide (v < u))) := by
  refine (q_gtr hT hx hy).v ?_
  congr 1
  exact decide_eq_decide.2 ⟨fun h => by have : v.toNat < u.toNat := by omega
                                        exact this, fun h => by have : v.toNat < u.toNat := h
                                                                omega⟩
end
section
variable {P : Program} {n : Sh} {a : Act} {E : List (Nat × Value)} {w : World} {dst : Option Nat} {ty : TypeId} {pos : String} {af : Array Edge} {gd : Option (Nat × Bool)}
theorem run_equalIn_sl_nil {t e : TypeId} (k : Nat) (p : Option Addr) (l c : Nat) (ht : P.underlying t = some (.slice e)) {w : World} : (Op.equalIn (k + 1) t (.slice p l c) (.slice none 0 0)).run P w = .ok p.isNone w := by
  unfold Op.equalIn
  cases p <;> simp [run_underlying ht]
theorem run_equal_sl_nil {t e : TypeId} (p : Option Addr) (l c : Nat) (ht : P.underlying t = some (.slice e)) {w : World} : (Op.equal t (.slice p l c) (.slice none 0 0)).run P w = .ok p.isNone w := run_equalIn_sl_nil 9999 p l c ht
theorem q_eq_slnil (hT : Tm n a E) {t e yt : TypeId} {x y : Operand} {p : Option Addr} {l c : Nat} (hx : evO E x = some (.slice p l c)) (hy : evO E y = some (.slice none 0 0)) (ht : P.underlying t = some (.slice e)) : QR P a w ⟨dst, .binOp .eql t x y yt, ty, pos, af, gd⟩ (.bool p.isNone) :=
  q_bin hT hx hy (by simp [eqGuard]) (by simp only [binOp, Sem.run_bind, run_equal_sl_nil p l c ht, Result.andThen_ok, Sem.run_pure])
end
theorem SlB.t {w : World} {p : Option Addr} {len : Nat} {bs : List UInt8} (h : SlB w p len bs) : SlT w p len 1 (fun u => [v8 u]) 0 bs := by
  refine ⟨h.1, fun h0 => ?_⟩
  obtain ⟨b, off, hp, hr⟩ := h.2 h0
  refine ⟨b, off, hp, fun i hi => ?_⟩
  rw [Nat.mul_one]
  refine hr.part i ?_
  have hi' : i < bs.length := by rw [h.1]; exact hi
  have e : (byC bs).drop i = v8 (bs.getD i 0) :: (byC bs).drop (i + 1) := by
    rw [List.drop_eq_getElem_cons (by simpa [byC] using hi')]
    simp [byC, List.getD_eq_getElem?_getD, hi']
  rw [e]; rfl
/-- The cells of a row of things, one behind the other. -/
theorem SlT.run {α : Type} {w : World} {b off k : Nat} {enc : α → List Value} {d0 : α} (hk : ∀ x, (enc x).length = k) : ∀ (l : List α), (∀ i, i < l.length → Rd w b (off + i * k) (enc (l.getD i d0))) → 0 < l.length → Rd w b off (l.flatMap enc)
  | [], _, h => by simp at h
  | [x], h, _ => by simpa using h 0 (by simp)
  | x :: y :: r, h, _ => by
    have h0 : Rd w b off (enc x) := by simpa using h 0 (by simp)
    have h1 := SlT.run (off := off + k) hk (y :: r) (fun i hi => by
      have := h (i + 1) (by simpa using hi)
      rw [show off + (i + 1) * k = off + k + i * k from by rw [Nat.add_mul]; omega] at this
      simpa using this) (by simp)
    obtain ⟨c, T, fr, hc, hv⟩ := h0
    obtain ⟨c', T', fr', hc', hv'⟩ := h1
    rw [hc] at hc'
    cases hc'
    refine ⟨c, T, fr, hc, fun i v hi => ?_⟩
    rw [List.flatMap_cons] at hi
    by_cases hlt : i < (enc x).length
    · rw [List.getElem?_append_left hlt] at hi; exact hv i v hi
    · rw [List.getElem?_append_right (by omega), hk] at hi
      rw [hk] at hlt
      have := hv' (i - k) v hi
      rwa [show off + k + (i - k) = off + i from by omega] at this
theorem SlT.src {α : Type} {w : World} {p : Option Addr} {len k : Nat} {enc : α → List Value} {d0 : α} {l : List α} (hk : ∀ x, (enc x).length = k) (h1 : ∀ x, oneCells (enc x) = true) (h : SlT w p len k enc d0 l) : Src w p len k (l.flatMap enc) := by
  refine ⟨?_, ?_, fun h0 => ?_⟩
  · rw [← h.1]
    clear h
    induction l with
    | nil => simp
    | cons x r ih => rw [List.flatMap_cons, List.length_append, hk, ih, List.length_cons, Nat.add_mul]; omega
  · clear h
    induction l with
    | nil => rfl
    | cons x r ih =>
      rw [List.flatMap_cons]
      unfold oneCells at *
      rw [List.all_append, h1, ih]; rfl
  · obtain ⟨b, off, hp, hr⟩ := h.2 h0
    refine ⟨b, off, hp, SlT.run hk l (fun i hi => hr i (by rw [← h.1]; exact hi)) (by rw [h.1]; exact h0)⟩
theorem oneCells_dig (d : Dig) : oneCells (digC d) = true := by rw [digC_by]; exact oneCells_byC _
theorem leafC_one (l : Leaf) : oneCells (leafC l) = true := by
  unfold leafC oneCells
  rw [List.all_append, Bool.and_eq_true]
  exact ⟨oneCells_dig l.p, oneCells_dig l.v⟩
end Go.Vg
