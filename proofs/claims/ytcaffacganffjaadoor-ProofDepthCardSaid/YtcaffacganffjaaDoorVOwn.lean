/- Rows of one's own, grown by append; what 'at' and 'Make' part leaves into. -/
import Derived.Test.YtcaffacganffjaaDoorVCmp
namespace Go.Vg
open Go

def OwnE {α : Type} (enc : α → List Value) (k : Nat) (T : TypeId) (p : Option Addr) (n cap : Nat) (l : List α) (c : Chunk) : Prop := l.length = n ∧ OwnC T k p n cap (l.flatMap enc) c
section
variable {α : Type} {enc : α → List Value} {k : Nat} {T : TypeId} {p : Option Addr} {n cap : Nat} {l : List α} {c : Chunk} {d0 : α}
theorem OwnE.nil : OwnE enc k T none 0 0 ([] : List α) [] := ⟨rfl, OwnC.none⟩
theorem OwnE.snoc {x : α} {p' : Option Addr} {cap' : Nat} {c' : Chunk} (h : OwnE enc k T p n cap l c) (h' : OwnC T k p' (n + 1) cap' (l.flatMap enc ++ enc x) c') : OwnE enc k T p' (n + 1) cap' (l ++ [x]) c' :=
  ⟨by simp [h.1], by simpa using h'⟩
theorem OwnE.some (h : OwnE enc k T p n cap l c) (h0 : 0 < n) : ∃ g junk, p = .some ⟨g, 0, none⟩ ∧ c = [(g, ob (l.flatMap enc ++ junk) T)] := by
  obtain ⟨_, _, hlc, _, hcase⟩ := h
  rcases hcase with ⟨_, h1, _⟩ | ⟨g, junk, h1, h2, _⟩
  · omega
  · exact ⟨g, junk, h1, h2⟩
theorem OwnE.slt {M : List Nat} {w0 w : World} {cs : List Chunk} (h : OwnE enc k T p n cap l c) (hk : ∀ x, (enc x).length = k) (hL : Vg.Loc M w0 w cs) {i : Nat} (hi : cs[i]? = .some c) : SlT w p n k enc d0 l := by
  refine ⟨h.1, fun h0 => ?_⟩
  obtain ⟨g, junk, rfl, rfl⟩ := h.some h0
  exact ⟨g, 0, rfl, fun j hj => SlT.flat0 hk l g 0 (hL.rd i hi 0 (by simp)) j (by rw [h.1]; exact hj)⟩
theorem OwnE.cap_le (h : OwnE enc k T p n cap l c) : n ≤ cap := h.2.2.1
theorem OwnE.len (h : OwnE enc k T p n cap l c) : l.length = n := h.1
end
/-- One thing, as it lies in a block of its own. -/
theorem Src.one {w : World} {b k : Nat} {xs : List Value} (hk : xs.length = k) (h1 : oneCells xs = true) (h : Rd w b 0 xs) : Src w (some ⟨b, 0, none⟩) 1 k xs := ⟨by simpa using hk, h1, fun _ => ⟨b, 0, rfl, h⟩⟩

theorem zerosL_snoc {ls : List Leaf} {t n : Nat} (h : t < ls.length) : zerosL (ls.take (t + 1)) n = if (ls.getD t noLeaf).p.bit n = true then zerosL (ls.take t) n else zerosL (ls.take t) n ++ [ls.getD t noLeaf] := by
  unfold zerosL
  rw [List.take_succ_eq_append_getElem h, List.filter_append]
  simp only [List.getD_eq_getElem?_getD, List.getElem?_eq_getElem h, Option.getD_some]
  cases hb : ls[t].p.bit n <;> simp [hb]
theorem onesL_snoc {ls : List Leaf} {t n : Nat} (h : t < ls.length) : onesL (ls.take (t + 1)) n = if (ls.getD t noLeaf).p.bit n = true then onesL (ls.take t) n ++ [ls.getD t noLeaf] else onesL (ls.take t) n := by
  unfold onesL
  rw [List.take_succ_eq_append_getElem h, List.filter_append]
  simp only [List.getD_eq_getElem?_getD, List.getElem?_eq_getElem h, Option.getD_some]
  cases hb : ls[t].p.bit n <;> simp [hb]
theorem dg_nil (w : Int) (fuel n : Nat) : dg w fuel [] n = emptyD w := by cases fuel <;> rfl
theorem dg_two {w : Int} {fuel n : Nat} {S : List Leaf} (h : 2 ≤ S.length) : dg w (fuel + 1) S n = nodeD w (dg w fuel (zerosL S n) (n + 1)) (dg w fuel (onesL S n) (n + 1)) := by
  match S, h with
  | a :: b :: r, _ => rfl
theorem dg_left {w : Int} {fuel n : Nat} {S : List Leaf} (h : 2 ≤ S.length) (ho : ∀ x ∈ S, x.p.bit n = false) : dg w (fuel + 1) S n = nodeD w (dg w fuel S (n + 1)) (emptyD w) := by
  rw [dg_two h]
  have h1 : zerosL S n = S := List.filter_eq_self.2 fun x hx => by simp [ho x hx]
  have h2 : onesL S n = [] := List.filter_eq_nil_iff.2 fun x hx => by simp [ho x hx]
  rw [h1, h2, dg_nil]
theorem GoodL.left {S : List Leaf} {n : Nat} (h : GoodL S n) (ho : ∀ x ∈ S, x.p.bit n = false) : GoodL S (n + 1) := by
  have := h.zeros
  rwa [show zerosL S n = S from List.filter_eq_self.2 fun x hx => by simp [ho x hx]] at this
def AtOK (P : Program) (f : FuncId) (w : Int) (fuel : Nat) : Prop := ∀ (ls : List Leaf) (p : Option Addr) (len cap n : Nat) (w0 : World), KeysAt w0 → SlT w0 p len 64 leafC noLeaf ls → GoodL ls n → fuel + n = 257 → 1 ≤ fuel → len ≤ 4096 →
  Calls P f #[vI w, .slice p len cap, vI (n : Int)] w0 fun e w' => e = .returned (dv (dg w fuel ls n)) ∧ Ext w0 w'
end Go.Vg
