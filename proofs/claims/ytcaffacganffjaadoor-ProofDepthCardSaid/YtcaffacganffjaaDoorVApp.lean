/- append onto a slice of one's own. -/
import Derived.Test.YtcaffacganffjaaDoorVSlice
import Derived.Laws.AppendOwn
namespace Go.Vg
open Go Go.Proofs.YtcaffacganffjaaDoorW.PrintLast

/-- A slice of one's own: none yet, or the first cells of a block of one's own. -/
def OwnC (e : TypeId) (k : Nat) (p : Option Addr) (n cap : Nat) (xs : List Value) (c : Chunk) : Prop :=
  xs.length = n * k ∧ n ≤ cap ∧ cap ≤ maxLen ∧ ((p = none ∧ cap = 0 ∧ c = []) ∨ ∃ g junk, p = some ⟨g, 0, none⟩ ∧ c = [(g, ob (xs ++ junk) e)] ∧ (xs ++ junk).length = cap * k)
theorem OwnC.none {e : TypeId} {k : Nat} : OwnC e k .none 0 0 [] [] := ⟨by simp, Nat.le_refl _, Nat.zero_le _, .inl ⟨rfl, rfl, rfl⟩⟩
theorem OwnC.empty {e : TypeId} {k g : Nat} : OwnC e k (some ⟨g, 0, .none⟩) 0 0 [] [(g, ob [] e)] := ⟨by simp, Nat.le_refl _, Nat.zero_le _, .inr ⟨g, [], rfl, rfl, by simp⟩⟩
/-- What is to be appended. -/
def Src (w : World) (q : Option Addr) (m k : Nat) (news : List Value) : Prop :=
  news.length = m * k ∧ oneCells news = true ∧ (0 < m → ∃ b off, q = some ⟨b, off, none⟩ ∧ Rd w b off news)

def appOf (P : Program) (t : TypeId) : Option (TypeId × Nat × Nat) :=
  match P.underlying t with
  | some (.slice e) => match P.info? e with
    | some i => match i.zero with
      | some z => if z.cells.size = i.size then some (e, i.size, i.bytes) else none
      | none => none
    | none => none
  | _ => none
theorem appOf_spec {P : Program} {t e : TypeId} {k y : Nat} (h : appOf P t = some (e, k, y)) : ∃ i z, P.underlying t = some (.slice e) ∧ P.info? e = some i ∧ i.zero = some z ∧ z.cells.size = k ∧ i.size = k ∧ i.bytes = y := by
  unfold appOf at h
  split at h
  · rename_i e' hu
    split at h
    · rename_i i hi
      split at h
      · rename_i z hz
        split at h
        · rename_i hs
          simp only [Option.some.injEq, Prod.mk.injEq] at h
          obtain ⟨rfl, rfl, rfl⟩ := h
          exact ⟨i, z, hu, hi, hz, hs, rfl, rfl⟩
        · cases h
      · cases h
    · cases h
  · cases h

section
variable {P : Program} {n : Sh} {a : Act} {E : List (Nat × Value)} {w w0 : World} {M : List Nat} {cs : List Chunk} {K : Act → World → Prop} {Q : Exit → Act → World → Prop}
  {ty : TypeId} {pos : String} {af : Array Edge} {gd : Option (Nat × Bool)} {d : Nat}

theorem Loc.swapIn {c' : Chunk} (h : Vg.Loc M w0 w (c' :: cs)) {i : Nat} {c : Chunk} (hi : cs[i]? = some c) : Vg.Loc M w0 w (cs.set i c') := by
  obtain ⟨hlt, hget⟩ := List.getElem?_eq_some_iff.1 hi
  have h1 : cs = cs.take i ++ c :: cs.drop (i + 1) := by rw [← hget, List.getElem_cons_drop, List.take_append_drop]
  have h2 : cs.set i c' = cs.take i ++ c' :: cs.drop (i + 1) := by rw [List.set_eq_take_append_cons_drop, if_pos hlt]
  have h3 : Vg.Loc M w0 w (c' :: (cs.take i ++ cs.drop (i + 1))) := by
    rw [h1] at h
    exact h.sub (.cons_cons _ (List.Sublist.append (List.Sublist.refl _) (List.sublist_cons_self _ _)))
  rw [h2]
  refine h3.perm ?_
  simp only [List.flatten_cons, List.flatten_append]
  rw [← List.append_assoc, ← List.append_assoc]
  exact List.Perm.append_right _ List.perm_append_comm

theorem Rd.at_add {b off : Nat} {news : List Value} (h : Rd w b off news) : ∀ j u, news[j]? = some u → w.cell? ((⟨b, off, none⟩ : Addr).add j) = some u := fun j u hu => by
  have := h.cell hu
  unfold Addr.add
  split
  · rename_i h0; subst h0; simpa using this
  · exact this
theorem oneCells_mem {l : List Value} (h : oneCells l = true) : ∀ u ∈ l, u.oneCell' = true := by
  intro u hu
  have h1 : prim u = true := by
    simp only [oneCells, List.all_eq_true] at h
    exact h u hu
  cases u <;> first | rfl | cases h1

theorem w_append (hT : Tm n a E) (hL : Vg.Loc M w0 w cs) (hlt : d < n.n) {x y : Operand} {t e : TypeId} {k yb l cap m mc : Nat} {p q : Option Addr} {xs news : List Value} {c : Chunk} {ta : Array TypeId} (i : Nat)
    (hx : evO E x = some (.slice p l cap)) (hy : evO E y = some (.slice q m mc)) (hta : ta = #[t, t]) (ht : appOf P t = some (e, k, yb)) (hk : 0 < k) (hi : cs[i]? = some c)
    (hown : OwnC e k p l cap xs c) (hsrc : Src w q m k news) (hb : (l + m) * yb ≤ 140737488355328) (h63 : l + m ≤ maxLen)
    (kk : ∀ p' cap' c' a' w', OwnC e k p' (l + m) cap' (xs ++ news) c' → Tm n a' ((d, .slice p' (l + m) cap') :: E) → Vg.Loc M w0 w' (cs.set i c') → K a' w') :
    Oper.wp P ⟨some d, .call { callee := .builtin .append, args := #[x, y], argTypes := ta }, ty, pos, af, gd⟩ a w K Q := by
  subst hta
  obtain ⟨ti, z, hu, hti, hz, hzs, rfl, rfl⟩ := appOf_spec ht
  obtain ⟨hxl, hlc, hcm, hcase⟩ := hown
  obtain ⟨hnl, hone, hrd⟩ := hsrc
  have hlen : (xs ++ news).length = (l + m) * ti.size := by rw [List.length_append, hxl, hnl, Nat.add_mul]
  have hself : cs.set i c = cs := by
    obtain ⟨hlt', hget⟩ := List.getElem?_eq_some_iff.1 hi
    rw [← hget]; exact List.set_getElem_self hlt'
  have hs63 : l + m ≤ 9223372036854775807 := by simp only [maxLen] at h63; omega
  have fin : ∀ {v : Value} {w' : World}, (Builtin.append_ #[t, t] ty #[.slice p l cap, .slice q m mc]).run P w = .ok v w' → (∀ a', a' = a.put (some d) v → K a' w') → Oper.wp P ⟨some d, .call { callee := .builtin .append, args := #[x, y], argTypes := #[t, t] }, ty, pos, af, gd⟩ a w K Q := by
    intro v w' hr hK
    refine w_val (v := v) (w' := w') ?_ (hK _ rfl)
    simp [execOp, resolve, invoke, builtin, hT.ev hx, hT.ev hy, hr]
  have big : ∀ (o : Nat), (Builtin.append_ #[t, t] ty #[.slice p l cap, .slice q m mc]).run P w = .ok (.slice (some ⟨w.heap.size, 0, none⟩) (l + m) (grownCap w (l + m) o e)) (w.drew.alloc (.cells (xs.toArray ++ news.toArray ++ Builtin.zeroCells z.cells (grownCap w (l + m) o e - (l + m))) e)) →
      Oper.wp P ⟨some d, .call { callee := .builtin .append, args := #[x, y], argTypes := #[t, t] }, ty, pos, af, gd⟩ a w K Q := by
    intro o hr
    refine fin hr ?_
    rintro _ rfl
    have hge := grownCap_ge w (l + m) o e
    have hle := grownCap_le_maxLen w (l + m) o e h63
    refine kk _ _ [(w.heap.size, ob ((xs ++ news) ++ (Builtin.zeroCells z.cells (grownCap w (l + m) o e - (l + m))).toList) e)] _ _ ⟨hlen, hge, hle, .inr ⟨_, _, rfl, rfl, ?_⟩⟩ (hT.put d hlt _) ?_
    · rw [List.length_append, hlen, Array.length_toList, size_zeroCells, hzs, ← Nat.add_mul]
      congr 1; omega
    · have h1 := (hL.drew.alloc (ob ((xs ++ news) ++ (Builtin.zeroCells z.cells (grownCap w (l + m) o e - (l + m))).toList) e)).swapIn hi
      have e1 : xs.toArray ++ news.toArray ++ Builtin.zeroCells z.cells (grownCap w (l + m) o e - (l + m)) = ((xs ++ news) ++ (Builtin.zeroCells z.cells (grownCap w (l + m) o e - (l + m))).toList).toArray := by simp
      rw [e1]
      exact h1
  rcases hcase with ⟨rfl, rfl, rfl⟩ | ⟨g, junk, rfl, rfl, hjl⟩
  · obtain rfl : l = 0 := by omega
    have hx0 : xs = [] := List.eq_nil_of_length_eq_zero (by simpa using hxl)
    subst hx0
    by_cases hm : m = 0
    · subst hm
      have hn0 : news = [] := List.eq_nil_of_length_eq_zero (by simpa using hnl)
      subst hn0
      have hr : (Builtin.append_ #[t, t] ty #[.slice none 0 0, .slice q 0 mc]).run P w = .ok (.slice none 0 0) w := by
        cases q <;> simp [Builtin.append_, run_underlying hu, sizeOf, typeInfo, hti, Builtin.lenOf, Builtin.firstCells, loadCells, loadCellsFrom]
      refine fin hr ?_
      rintro _ rfl
      exact kk none 0 [] _ _ (by simpa using OwnC.none) (hT.put d hlt _) (by rw [hself]; exact hL)
    · obtain ⟨b, off, rfl, hr⟩ := hrd (by omega)
      have := run_append_nil (P := P) w t ty e ti z hu hti hz ⟨b, off, none⟩ m mc news hnl hr.at_add (by omega) (by omega) (by simp only [Nat.zero_add] at hb; omega)
      refine big 0 ?_
      simpa using this
  · have hg : w.heap[g]? = some (ob (xs ++ junk) e) := hL.get i hi
    by_cases hroom : l + m ≤ cap
    · by_cases hm : m = 0
      · subst hm
        have hn0 : news = [] := List.eq_nil_of_length_eq_zero (by simpa using hnl)
        subst hn0
        have hr : (Builtin.append_ #[t, t] ty #[.slice (some ⟨g, 0, none⟩) l cap, .slice q 0 mc]).run P w = .ok (.slice (some ⟨g, 0, none⟩) (l + 0) cap) w := by
          cases q <;> simp [Builtin.append_, run_underlying hu, sizeOf, typeInfo, hti, Builtin.lenOf, Builtin.firstCells, loadCells, loadCellsFrom, hlc, storeCells]
        refine fin hr ?_
        rintro _ rfl
        exact kk _ _ [(g, ob (xs ++ junk) e)] _ _ ⟨by simpa using hxl, by omega, hcm, .inr ⟨g, junk, rfl, by simp, by simpa using hjl⟩⟩ (hT.put d hlt _) (by rw [hself]; exact hL)
      · obtain ⟨b, off, rfl, hr⟩ := hrd (by omega)
        have hcl : (l + m) * ti.size ≤ cap * ti.size := Nat.mul_le_mul_right _ hroom
        have hjl' := hjl
        rw [List.length_append] at hjl'
        have hmul := Nat.add_mul l m ti.size
        have hrun := run_append_room (P := P) w t ty e ti hu hti g l cap _ hg ⟨b, off, none⟩ m mc news hnl hr.at_add (oneCells_mem hone) hroom (by simp only [List.size_toArray, List.length_append]; omega)
        refine fin hrun ?_
        rintro _ rfl
        have e1 : (xs ++ junk).take (l * ti.size) ++ news ++ (xs ++ junk).drop (l * ti.size + news.length) = (xs ++ news) ++ junk.drop news.length := by
          rw [← hxl, List.take_left, List.drop_append, List.drop_of_length_le (by omega), show xs.length + news.length - xs.length = news.length from by omega, List.nil_append]
        refine kk _ _ [(g, ob ((xs ++ news) ++ junk.drop news.length) e)] _ _ ⟨hlen, hroom, hcm, .inr ⟨g, _, rfl, rfl, ?_⟩⟩ (hT.put d hlt _) ?_
        · rw [List.length_append, List.length_append, List.length_drop]; omega
        · simp only [] at e1 ⊢
          rw [e1]
          exact hL.mod hi rfl rfl rfl rfl (by simp [World.setRow]) (setRow_heap w g _ _ e _ hg) (fun k' hk' => setRow_other w g k' _ hk')
    · obtain ⟨b, off, rfl, hr⟩ := hrd (by omega)
      have hrx : Rd w g 0 xs := hL.rd i hi 0 (by simp)
      exact big cap (run_append_grow (P := P) w t ty e ti z hu hti hz ⟨g, 0, none⟩ l cap xs hxl hrx.at_add ⟨b, off, none⟩ m mc news hnl hr.at_add (by omega) (by omega) (growslice_fits (by omega) hb))
end
end Go.Vg
