/- A small theory of walks over opaque acts and worlds: live temporaries (Tm), a frame with blocks of the call's own (Loc), one lemma for each operation. One lemma for each operation: what it yields, or what it does to the frame. What the quiet operations yield. -/
import Derived.Orders
import Derived.RowKit
import Derived.Below
import Derived.WalkKit
import Derived.Laws.LoneSync

section
namespace Go.Vg
open Go

/-! ### Temporaries -/
def look : List (Nat × Value) → Nat → Option Value
  | [], _ => none
  | (k, v) :: r, t => match Nat.beq k t with
    | true => some v
    | false => look r t

/-- How many temporaries, and the calls that are deferred. -/
structure Sh where
  n : Nat
  ds : List Deferred
instance (k : Nat) : OfNat Sh k := ⟨⟨k, []⟩⟩
structure Tm (n : Sh) (a : Act) (E : List (Nat × Value)) : Prop where
  size : a.tmps.size = n.n
  defers : a.defers = n.ds
  get : ∀ t v, look E t = some v → a.tmps[t]? = some v

theorem Tm.put {n : Sh} {a : Act} {E : List (Nat × Value)} (h : Tm n a E) (d : Nat) (hd : d < n.n) (v : Value) : Tm n (a.put (some d) v) ((d, v) :: E) where
  size := by simp [Act.put, h.size]
  defers := h.defers
  get := by
    intro t u hl
    simp only [look] at hl
    simp only [Act.put]
    cases hb : Nat.beq d t with
    | true =>
      rw [hb] at hl
      have : d = t := Nat.eq_of_beq_eq_true hb
      subst this
      simp only [Option.some.injEq] at hl
      subst hl
      rw [Array.getElem?_setIfInBounds_self_of_lt (by rw [h.size]; exact hd)]
    | false =>
      rw [hb] at hl
      have hne : d ≠ t := fun e => by subst e; rw [Nat.beq_refl] at hb; cases hb
      rw [Array.getElem?_setIfInBounds_ne hne]
      exact h.get t u hl

theorem Tm.put_none {n : Sh} {a : Act} {E : List (Nat × Value)} (h : Tm n a E) (v : Value) : Tm n (a.put none v) E := h

def pick (E : List (Nat × Value)) : List Nat → List (Nat × Value)
  | [] => []
  | k :: ks => match look E k with
    | some v => (k, v) :: pick E ks
    | none => pick E ks

theorem look_pick {E : List (Nat × Value)} : ∀ (ks : List Nat) (t : Nat) (v : Value), look (pick E ks) t = some v → look E t = some v
  | [], _, _, h => by simp [pick, look] at h
  | k :: ks, t, v, h => by
    unfold pick at h
    cases hk : look E k with
    | none => rw [hk] at h; exact look_pick ks t v h
    | some u =>
      rw [hk] at h
      simp only [look] at h
      cases hb : Nat.beq k t with
      | true =>
        rw [hb] at h
        have : k = t := Nat.eq_of_beq_eq_true hb
        subst this
        simp only [Option.some.injEq] at h
        subst h
        exact hk
      | false => rw [hb] at h; exact look_pick ks t v h

theorem Tm.keep {n : Sh} {a : Act} {E : List (Nat × Value)} (h : Tm n a E) (ks : List Nat) {E' : List (Nat × Value)} (he : pick E ks = E') : Tm n a E' :=
  ⟨h.size, h.defers, fun t v hl => h.get t v (look_pick ks t v (he ▸ hl))⟩

def evO (E : List (Nat × Value)) : Operand → Option Value
  | .tmp t => look E t
  | .const v => some v
  | .global g => some (.pointer (some ⟨g, 0, none⟩))
  | .func f => some (.func (.func f) #[] #[])

theorem Tm.ev {n : Sh} {a : Act} {E : List (Nat × Value)} (h : Tm n a E) {x : Operand} {v : Value} (hx : evO E x = some v) : a.eval x = v := by
  cases x with
  | tmp t =>
    have := h.get t v hx
    simp only [Act.eval]
    rw [Array.getD_eq_getD_getElem?, this]
    rfl
  | const v => simpa [evO, Act.eval] using hx
  | global g => simpa [evO, Act.eval] using hx
  | func f => simpa [evO, Act.eval] using hx

def evL (E : List (Nat × Value)) : List Operand → Option (List Value)
  | [] => some []
  | x :: r => match evO E x, evL E r with
    | some v, some vs => some (v :: vs)
    | _, _ => none

theorem Tm.evL {n : Sh} {a : Act} {E : List (Nat × Value)} (h : Tm n a E) : ∀ {xs : List Operand} {vs : List Value}, Vg.evL E xs = some vs → xs.map a.eval = vs
  | [], vs, hx => by simp [Vg.evL] at hx; simp [hx]
  | x :: r, vs, hx => by
    simp only [Vg.evL] at hx
    split at hx
    · rename_i v us h1 h2
      simp only [Option.some.injEq] at hx
      subst hx
      simp [h.ev h1, h.evL h2]
    · cases hx

theorem Tm.init (args : List Value) (n : Nat) (h : args.length ≤ n) {E : List (Nat × Value)} (hE : (args.zipIdx.map fun p => (p.2, p.1)) = E) :
    Tm ⟨n, []⟩ ⟨args.toArray ++ Array.replicate (n - args.toArray.size) undef, []⟩ E where
  size := by simp; omega
  defers := rfl
  get := by
    subst hE
    have key : ∀ (l : List Value) (k t : Nat) (v : Value), look ((l.zipIdx k).map fun p => (p.2, p.1)) t = some v → k ≤ t ∧ l[t - k]? = some v := by
      intro l
      induction l with
      | nil => intro k t v hl; simp [look] at hl
      | cons x r ih =>
        intro k t v hl
        simp only [List.zipIdx_cons, List.map_cons, look] at hl
        cases hb : Nat.beq k t with
        | true =>
          rw [hb] at hl
          have : k = t := Nat.eq_of_beq_eq_true hb
          subst this
          simpa using hl
        | false =>
          rw [hb] at hl
          have hne : k ≠ t := fun e => by subst e; rw [Nat.beq_refl] at hb; cases hb
          obtain ⟨h1, h2⟩ := ih (k + 1) t v hl
          refine ⟨by omega, ?_⟩
          rw [show t - k = (t - (k + 1)) + 1 from by omega]
          simpa using h2
    intro t v hl
    obtain ⟨_, h2⟩ := key args 0 t v hl
    simp only [Nat.sub_zero] at h2
    have hlt : t < args.length := (List.getElem?_eq_some_iff.1 h2).1
    rw [Array.getElem?_append_left (by simpa using hlt)]
    simpa using h2

/-! ### The frame: old blocks, and chunks of the call's own -/
abbrev Entry := Nat × Obj
abbrev Chunk := List Entry
def keys (cs : List Chunk) : List Nat := cs.flatten.map (·.1)
abbrev ob (c : List Value) (T : TypeId) : Obj := .cells c.toArray T (0, 0)

structure Loc (M : List Nat) (w0 w : World) (cs : List Chunk) : Prop where
  os : w.os = w0.os
  tape : w.tape = w0.tape
  output : w.output = w0.output
  drawn : w0.drawn ≤ w.drawn
  size : w0.heap.size ≤ w.heap.size
  old : ∀ b, b < w0.heap.size → b ∉ M → w.heap[b]? = w0.heap[b]?
  nd : (keys cs).Nodup
  own : ∀ b ∈ keys cs, w0.heap.size ≤ b ∨ b ∈ M
  has : ∀ p ∈ cs.flatten, w.heap[p.1]? = some p.2

abbrev Ext (w0 w : World) : Prop := Loc [] w0 w []

theorem Ext.refl (w : World) : Ext w w := ⟨rfl, rfl, rfl, Nat.le_refl _, Nat.le_refl _, fun _ _ _ => rfl, List.nodup_nil, by simp [keys], by simp⟩
theorem Loc.refl (M : List Nat) (w : World) : Loc M w w [] := ⟨rfl, rfl, rfl, Nat.le_refl _, Nat.le_refl _, fun _ _ _ => rfl, List.nodup_nil, by simp [keys], by simp⟩

theorem Loc.below {w0 w : World} {cs : List Chunk} (h : Loc [] w0 w cs) : RowKit.Below w0.heap.size w0 w := ⟨h.os, h.tape, h.output, h.size, fun k hk => h.old k hk (by simp)⟩

theorem lt_of_heap {w : World} {b : Nat} {o : Obj} (h : w.heap[b]? = some o) : b < w.heap.size := (Array.getElem?_eq_some_iff.1 h).1

theorem Loc.lt {M : List Nat} {w0 w : World} {cs : List Chunk} (h : Loc M w0 w cs) {b : Nat} (hb : b ∈ keys cs) : b < w.heap.size := by
  simp only [keys, List.mem_map] at hb
  obtain ⟨p, hp, rfl⟩ := hb
  exact lt_of_heap (h.has p hp)

theorem Loc.drop {M : List Nat} {w0 w : World} {cs : List Chunk} (h : Loc M w0 w cs) : Loc M w0 w [] :=
  ⟨h.os, h.tape, h.output, h.drawn, h.size, h.old, List.nodup_nil, by simp [keys], by simp⟩

theorem sub_flatten {cs' cs : List Chunk} (h : cs'.Sublist cs) : cs'.flatten.Sublist cs.flatten := by
  induction h with
  | slnil => exact List.Sublist.refl _
  | cons a _ ih => exact ih.trans (List.sublist_append_right _ _)
  | cons_cons a _ ih => exact List.Sublist.append (List.Sublist.refl _) ih

/-- A sublist of the chunks. -/
theorem Loc.sub {M : List Nat} {w0 w : World} {cs cs' : List Chunk} (h : Loc M w0 w cs) (hs : cs'.Sublist cs) : Loc M w0 w cs' where
  os := h.os
  tape := h.tape
  output := h.output
  drawn := h.drawn
  size := h.size
  old := h.old
  nd := h.nd.sublist ((sub_flatten hs).map _)
  own := fun b hb => h.own b (((sub_flatten hs).map _).subset hb)
  has := fun p hp => h.has p ((sub_flatten hs).subset hp)

theorem Loc.perm {M : List Nat} {w0 w : World} {cs cs' : List Chunk} (h : Loc M w0 w cs) (hs : cs.flatten.Perm cs'.flatten) : Loc M w0 w cs' where
  os := h.os
  tape := h.tape
  output := h.output
  drawn := h.drawn
  size := h.size
  old := h.old
  nd := (List.Perm.nodup_iff (hs.map _)).1 h.nd
  own := fun b hb => h.own b ((hs.map _).mem_iff.2 hb)
  has := fun p hp => h.has p (hs.mem_iff.2 hp)

theorem Loc.drew {M : List Nat} {w0 w : World} {cs : List Chunk} (h : Loc M w0 w cs) : Loc M w0 w.drew cs := ⟨h.os, h.tape, h.output, Nat.le_succ_of_le h.drawn, h.size, h.old, h.nd, h.own, h.has⟩

theorem Loc.alloc {M : List Nat} {w0 w : World} {cs : List Chunk} (h : Loc M w0 w cs) (o : Obj) : Loc M w0 { w with heap := w.heap.push o } ([(w.heap.size, o)] :: cs) where
  os := h.os
  tape := h.tape
  output := h.output
  drawn := h.drawn
  size := by have := h.size; simp; omega
  old := fun b hb hm => by
    have := h.size
    simp only [Array.getElem?_push]
    rw [if_neg (by omega)]
    exact h.old b hb hm
  nd := by
    simp only [keys, List.flatten_cons, List.singleton_append, List.map_cons, List.nodup_cons]
    exact ⟨fun hm => by have := h.lt hm; omega, h.nd⟩
  own := by
    intro b hb
    simp only [keys, List.flatten_cons, List.singleton_append, List.map_cons, List.mem_cons] at hb
    rcases hb with rfl | hb
    · exact .inl h.size
    · exact h.own b hb
  has := by
    intro p hp
    simp only [List.flatten_cons, List.singleton_append, List.mem_cons] at hp
    rcases hp with rfl | hp
    · simp
    · have := lt_of_heap (h.has p hp)
      simp only [Array.getElem?_push]
      rw [if_neg (by omega)]
      exact h.has p hp

/-- Chunk number i is one block; its cells are turned. -/
theorem Loc.mod {M : List Nat} {w0 w : World} {cs : List Chunk} (h : Loc M w0 w cs) {i b : Nat} {o o' : Obj} (hi : cs[i]? = some [(b, o)])
    {w' : World} (hos : w'.os = w.os) (ht : w'.tape = w.tape) (hout : w'.output = w.output) (hdr : w'.drawn = w.drawn) (hsz : w'.heap.size = w.heap.size)
    (hb : w'.heap[b]? = some o') (hne : ∀ k, k ≠ b → w'.heap[k]? = w.heap[k]?) : Loc M w0 w' (cs.set i [(b, o')]) := by
  obtain ⟨hlt, hget⟩ := List.getElem?_eq_some_iff.1 hi
  have hcs : cs = cs.take i ++ [(b, o)] :: cs.drop (i + 1) := by
    rw [← hget, List.getElem_cons_drop, List.take_append_drop]
  have hcs' : cs.set i [(b, o')] = cs.take i ++ [(b, o')] :: cs.drop (i + 1) := by
    rw [List.set_eq_take_append_cons_drop, if_pos hlt]
  have hk : keys (cs.set i [(b, o')]) = keys cs := by
    rw [hcs']
    conv => rhs; rw [hcs]
    simp [keys]
  have hbk : b ∈ keys cs := by rw [hcs]; simp [keys]
  have hnd := h.nd
  rw [hcs] at hnd
  simp only [keys, List.flatten_append, List.flatten_cons, List.map_append, List.singleton_append, List.map_cons] at hnd
  have hb0 : b ∉ List.map (fun x => x.1) (cs.take i).flatten ∧ b ∉ List.map (fun x => x.1) (cs.drop (i + 1)).flatten := by
    rw [List.nodup_append] at hnd
    obtain ⟨_, h2, h3⟩ := hnd
    rw [List.nodup_cons] at h2
    exact ⟨fun hm => h3 b hm b (by simp) rfl, h2.1⟩
  refine ⟨hos.trans h.os, ht.trans h.tape, hout.trans h.output, by rw [hdr]; exact h.drawn, by rw [hsz]; exact h.size, fun k hk' hm => ?_, by rw [hk]; exact h.nd, by rw [hk]; exact h.own, ?_⟩
  · have hkb : k ≠ b := fun e => by
      subst e
      rcases h.own k hbk with h1 | h1
      · omega
      · exact hm h1
    rw [hne k hkb]
    exact h.old k hk' hm
  · intro p hp
    rw [hcs'] at hp
    simp only [List.flatten_append, List.flatten_cons, List.singleton_append, List.mem_append, List.mem_cons] at hp
    have hrest : ∀ q : Entry, q ∈ cs.flatten → q.1 ≠ b → w'.heap[q.1]? = some q.2 := fun q hq hqb => by rw [hne _ hqb]; exact h.has q hq
    rcases hp with hp | rfl | hp
    · refine hrest p ?_ (fun e => hb0.1 (e ▸ List.mem_map.2 ⟨p, hp, rfl⟩))
      rw [hcs]; simp [hp]
    · exact hb
    · refine hrest p ?_ (fun e => hb0.2 (e ▸ List.mem_map.2 ⟨p, hp, rfl⟩))
      rw [hcs]; simp [hp]

/-- Behind a call: it may have turned the chunks `ci` alone; what it hands back is `co`. -/
theorem Loc.call {M : List Nat} {w0 w w' : World} {ci cr co : List Chunk} (h : Loc M w0 w (ci ++ cr)) (hc : Loc (keys ci) w w' co) : Loc M w0 w' (co ++ cr) where
  os := hc.os.trans h.os
  tape := hc.tape.trans h.tape
  output := hc.output.trans h.output
  drawn := Nat.le_trans h.drawn hc.drawn
  size := Nat.le_trans h.size hc.size
  old := fun b hb hm => by
    have hb' : b ∉ keys ci := fun hk => by
      rcases h.own b (by simp only [keys, List.flatten_append, List.map_append, List.mem_append] at hk ⊢; exact .inl hk) with h1 | h1
      · omega
      · exact hm h1
    rw [hc.old b (Nat.lt_of_lt_of_le hb h.size) hb']
    exact h.old b hb hm
  nd := by
    have hnd := h.nd
    simp only [keys, List.flatten_append, List.map_append] at hnd ⊢
    rw [List.nodup_append] at hnd ⊢
    refine ⟨hc.nd, hnd.2.1, fun x hx y hy hxy => ?_⟩
    subst hxy
    have hylt : x < w.heap.size := h.lt (by simp only [keys, List.flatten_append, List.map_append, List.mem_append]; exact .inr hy)
    rcases hc.own x hx with h1 | h1
    · omega
    · exact hnd.2.2 x h1 x hy rfl
  own := fun b hb => by
    simp only [keys, List.flatten_append, List.map_append, List.mem_append] at hb
    rcases hb with hb | hb
    · rcases hc.own b hb with h1 | h1
      · exact .inl (Nat.le_trans h.size h1)
      · exact h.own b (by simp only [keys, List.flatten_append, List.map_append, List.mem_append] at h1 ⊢; exact .inl h1)
    · exact h.own b (by simp only [keys, List.flatten_append, List.map_append, List.mem_append]; exact .inr hb)
  has := fun p hp => by
    simp only [List.flatten_append, List.mem_append] at hp
    rcases hp with hp | hp
    · exact hc.has p hp
    · have hp' : p ∈ (ci ++ cr).flatten := by simp only [List.flatten_append, List.mem_append]; exact .inr hp
      have hlt := lt_of_heap (h.has p hp')
      have hnk : p.1 ∉ keys ci := fun hk => by
        have hnd := h.nd
        simp only [keys, List.flatten_append, List.map_append] at hnd
        rw [List.nodup_append] at hnd
        exact hnd.2.2 p.1 hk p.1 (List.mem_map.2 ⟨p, hp, rfl⟩) rfl
      rw [hc.old p.1 hlt hnk]
      exact h.has p hp'

theorem Loc.ext {M : List Nat} {w0 w w' : World} {cs : List Chunk} (h : Loc M w0 w cs) (hc : Ext w w') : Loc M w0 w' cs := Loc.call (ci := []) (co := []) h hc
theorem Loc.exts {M : List Nat} {w0 w w' : World} {cs co : List Chunk} (h : Loc M w0 w cs) (hc : Loc [] w w' co) : Loc M w0 w' (co ++ cs) := Loc.call (ci := []) (co := co) h hc
theorem Loc.to_ext {w0 w : World} {cs : List Chunk} (h : Loc [] w0 w cs) : Ext w0 w := h.drop

/-- What lay in an old block lies there still. -/
theorem Loc.kept {M : List Nat} {w0 w : World} {cs : List Chunk} (h : Loc M w0 w cs) {b : Nat} {o : Obj} (hb : w0.heap[b]? = some o) (hm : b ∉ M) : w.heap[b]? = some o := by
  rw [h.old b (lt_of_heap hb) hm]; exact hb

/-! ### Reading -/
def Rd (w : World) (b off : Nat) (cs : List Value) : Prop := ∃ c T fr, w.heap[b]? = some (.cells c T fr) ∧ ∀ i v, cs[i]? = some v → c[off + i]? = some v

theorem Rd.mk {w : World} {b off : Nat} {c : List Value} {T : TypeId} {fr : Nat × Nat} {cs : List Value} (h : w.heap[b]? = some (.cells c.toArray T fr)) (hs : (c.drop off).take cs.length = cs) : Rd w b off cs := by
  refine ⟨_, _, _, h, fun i v hv => ?_⟩
  have hlt : i < cs.length := (List.getElem?_eq_some_iff.1 hv).1
  rw [← hs] at hv
  rw [List.getElem?_take_of_lt hlt, List.getElem?_drop] at hv
  simpa using hv

theorem Loc.rd {M : List Nat} {w0 w : World} {cs : List Chunk} (h : Loc M w0 w cs) (i : Nat) {b : Nat} {c : List Value} {T : TypeId} (hi : cs[i]? = some [(b, ob c T)]) (off : Nat) {ds : List Value} (hs : (c.drop off).take ds.length = ds) : Rd w b off ds :=
  Rd.mk (h.has (b, ob c T) (List.mem_flatten.2 ⟨_, List.mem_of_getElem? hi, by simp⟩)) hs

theorem Rd.mono {w w' : World} {b off : Nat} {cs : List Value} (h : Rd w b off cs) (hb : ∀ o, w.heap[b]? = some o → w'.heap[b]? = some o) : Rd w' b off cs := by
  obtain ⟨c, T, fr, h1, h2⟩ := h
  exact ⟨c, T, fr, hb _ h1, h2⟩

theorem Rd.lt {w : World} {b off : Nat} {cs : List Value} (h : Rd w b off cs) : b < w.heap.size := by
  obtain ⟨c, T, fr, h1, h2⟩ := h
  exact lt_of_heap h1

theorem Rd.ext {w w' : World} {b off : Nat} {cs : List Value} (h : Rd w b off cs) (he : Ext w w') : Rd w' b off cs := h.mono fun _ ho => he.kept ho (by simp)
theorem Rd.loc {M : List Nat} {w w' : World} {b off : Nat} {cs : List Value} {ch : List Chunk} (h : Rd w b off cs) (he : Loc M w w' ch) (hm : b ∉ M) : Rd w' b off cs := h.mono fun _ ho => he.kept ho hm

theorem Rd.part {w : World} {b off : Nat} {cs : List Value} (h : Rd w b off cs) (k : Nat) {ds : List Value} (hs : (cs.drop k).take ds.length = ds) : Rd w b (off + k) ds := by
  obtain ⟨c, T, fr, h1, h2⟩ := h
  refine ⟨c, T, fr, h1, fun i v hv => ?_⟩
  have hlt : i < ds.length := (List.getElem?_eq_some_iff.1 hv).1
  rw [← hs] at hv
  rw [List.getElem?_take_of_lt hlt, List.getElem?_drop] at hv
  have := h2 (k + i) v hv
  rwa [← Nat.add_assoc] at this

theorem Rd.cell {w : World} {b off : Nat} {cs : List Value} (h : Rd w b off cs) {i : Nat} {v : Value} (hv : cs[i]? = some v) : w.cell? ⟨b, off + i, none⟩ = some v := by
  obtain ⟨c, T, fr, h1, h2⟩ := h
  simp [World.cell?, h1, h2 i v hv]


/-- Chunk number i is brought to the front. -/
theorem Loc.front {M : List Nat} {w0 w : World} {cs : List Chunk} (h : Loc M w0 w cs) (i : Nat) {c : Chunk} {rest : List Chunk} (hi : cs[i]? = some c) (hr : cs.eraseIdx i = rest) : Loc M w0 w (c :: rest) := by
  subst hr
  refine h.perm ?_
  obtain ⟨hlt, hget⟩ := List.getElem?_eq_some_iff.1 hi
  have h1 : cs = cs.take i ++ c :: cs.drop (i + 1) := by rw [← hget, List.getElem_cons_drop, List.take_append_drop]
  have h2 : cs.eraseIdx i = cs.take i ++ cs.drop (i + 1) := List.eraseIdx_eq_take_drop_succ ..
  rw [h2]
  conv => lhs; rw [h1]
  simp only [List.flatten_append, List.flatten_cons]
  rw [← List.append_assoc, ← List.append_assoc]
  exact List.Perm.append_right _ List.perm_append_comm

/-- Blocks that lie in the world when the call begins, and that it may turn. -/
theorem Loc.start {w : World} {cs : List Chunk} (hn : (keys cs).Nodup) (hh : ∀ p ∈ cs.flatten, w.heap[p.1]? = some p.2) : Loc (keys cs) w w cs :=
  ⟨rfl, rfl, rfl, Nat.le_refl _, Nat.le_refl _, fun _ _ _ => rfl, hn, fun _ hb => .inr hb, hh⟩
theorem Loc.start1 {w : World} {b : Nat} {o : Obj} (hh : w.heap[b]? = some o) : Loc [b] w w [[(b, o)]] :=
  Loc.start (cs := [[(b, o)]]) (by simp [keys]) (by simpa using hh)
theorem Loc.get {M : List Nat} {w0 w : World} {cs : List Chunk} (h : Loc M w0 w cs) (i : Nat) {b : Nat} {o : Obj} (hi : cs[i]? = some [(b, o)]) : w.heap[b]? = some o :=
  h.has (b, o) (List.mem_flatten.2 ⟨_, List.mem_of_getElem? hi, by simp⟩)
theorem Loc.fresh {w0 w : World} {cs : List Chunk} (h : Loc [] w0 w cs) (i : Nat) {b : Nat} {o : Obj} (hi : cs[i]? = some [(b, o)]) : w0.heap.size ≤ b := by
  have : b ∈ keys cs := List.mem_map.2 ⟨(b, o), List.mem_flatten.2 ⟨_, List.mem_of_getElem? hi, by simp⟩, rfl⟩
  rcases h.own b this with h1 | h1
  · exact h1
  · cases h1
end Go.Vg
end

section
namespace Go.Vg
open Go

/-! ### Types -/
def tyOf (P : Program) (t : TypeId) : Option (Nat × Bool × List Value) :=
  match P.info? t, P.underlying t with
  | some i, some d => match i.zero with
    | some z => some (i.size, (match d with | .struct _ | .array _ _ => true | _ => false), z.cells.toList)
    | none => none
  | _, _ => none

section
variable {P : Program} {t : TypeId} {n : Nat} {g : Bool} {z : List Value}

theorem run_isAgg (h : tyOf P t = some (n, g, z)) (w : World) : (isAgg t).run P w = .ok g w := by
  unfold tyOf at h
  cases hi : P.info? t with
  | none => rw [hi] at h; simp at h
  | some i =>
    cases hu : P.underlying t with
    | none => rw [hi, hu] at h; simp at h
    | some d =>
      rw [hi, hu] at h
      simp only at h
      cases hz : i.zero with
      | none => rw [hz] at h; simp at h
      | some zz =>
        rw [hz] at h
        simp only [Option.some.injEq, Prod.mk.injEq] at h
        obtain ⟨_, h2, _⟩ := h
        simp only [isAgg, Sem.run_bind, run_underlying hu, Result.andThen_ok]
        cases d <;> simp_all

theorem tyInfo (h : tyOf P t = some (n, g, z)) : ∃ i zz, P.info? t = some i ∧ i.size = n ∧ i.zero = some zz ∧ zz.cells.toList = z := by
  unfold tyOf at h
  cases hi : P.info? t with
  | none => rw [hi] at h; simp at h
  | some i =>
    cases hu : P.underlying t with
    | none => rw [hi, hu] at h; simp at h
    | some d =>
      rw [hi, hu] at h
      simp only at h
      cases hz : i.zero with
      | none => rw [hz] at h; simp at h
      | some zz =>
        rw [hz] at h
        simp only [Option.some.injEq, Prod.mk.injEq] at h
        exact ⟨i, zz, rfl, h.1, hz, h.2.2⟩

theorem run_typeInfo {i : TypeInfo} (h : P.info? t = some i) (w : World) : (typeInfo t).run P w = .ok i w := by
  simp [typeInfo, h]

theorem run_sizeOf (h : tyOf P t = some (n, g, z)) (w : World) : (sizeOf t).run P w = .ok n w := by
  obtain ⟨i, zz, hi, hn, _, _⟩ := tyInfo h
  simp [sizeOf, run_typeInfo hi, hn]

theorem run_zeroValue (h : tyOf P t = some (n, g, z)) (w : World) : ∃ zz : Value, (zeroValue t).run P w = .ok zz w ∧ zz.cells.toList = z := by
  obtain ⟨i, zz, hi, _, hz, hc⟩ := tyInfo h
  exact ⟨zz, by simp [zeroValue, run_typeInfo hi, hz], hc⟩

/-! ### Loading and storing -/
theorem run_loadCellsFrom {w : World} {b off : Nat} {cs : List Value} (h : Rd w b off cs) : ∀ (m i : Nat) (acc : Array Value), i + m = cs.length →
    (loadCellsFrom ⟨b, off, none⟩ i m acc).run P w = .ok (acc ++ (cs.drop i).toArray) w := by
  intro m
  induction m with
  | zero => intro i acc hi; simp [loadCellsFrom, List.drop_of_length_le (show cs.length ≤ i by omega)]
  | succ m ih =>
    intro i acc hi
    have hlt : i < cs.length := by omega
    have hc : w.cell? ((⟨b, off, none⟩ : Addr).add i) = some cs[i] := by
      have := h.cell (List.getElem?_eq_getElem hlt)
      unfold Addr.add
      split
      · rename_i h0; subst h0; exact this
      · exact this
    simp only [loadCellsFrom, Sem.run_bind, run_load, hc, Result.andThen_ok]
    rw [ih (i + 1) _ (by omega), List.drop_eq_getElem_cons hlt]
    simp

theorem run_loadCells {w : World} {b off : Nat} {cs : List Value} (h : Rd w b off cs) : (loadCells ⟨b, off, none⟩ cs.length).run P w = .ok cs.toArray w := by
  have := run_loadCellsFrom (P := P) h cs.length 0 #[] (by omega)
  simpa [loadCells] using this

theorem run_loadVar_agg {w : World} {b off : Nat} {cs : List Value} (ht : tyOf P t = some (n, true, z)) (h : Rd w b off cs) (hn : cs.length = n) : (loadVar t ⟨b, off, none⟩).run P w = .ok (.agg cs.toArray) w := by
  subst hn
  simp [loadVar, run_isAgg ht, run_sizeOf ht, run_loadCells h]

theorem run_loadVar_prim {w : World} {b off : Nat} {v : Value} (ht : tyOf P t = some (n, false, z)) (h : Rd w b off [v]) : (loadVar t ⟨b, off, none⟩).run P w = .ok v w := by
  have hc : w.cell? ⟨b, off, none⟩ = some v := by simpa using h.cell (i := 0) (v := v) rfl
  simp [loadVar, run_isAgg ht, hc]

/-- Cells laid over a list from off on. -/
def lay (c : List Value) (off : Nat) (vs : List Value) : List Value := c.take off ++ vs ++ c.drop (off + vs.length)

def prim : Value → Bool
  | .agg _ | .tuple _ => false
  | _ => true
def oneCells (vs : List Value) : Bool := vs.all prim

theorem run_store_blk {w : World} {b off : Nat} {c : Array Value} {T : TypeId} {v : Value} (hb : w.heap[b]? = some (.cells c T (0, 0))) (ho : off < c.size) (hv : prim v = true) :
    (store ⟨b, off, none⟩ v).run P w = .ok () (w.setCell ⟨b, off, none⟩ v) := by
  have hc : w.cell? ⟨b, off, none⟩ = some c[off] := by simp [World.cell?, hb, ho]
  have hf : w.frozen? ⟨b, off, none⟩ = false := by simp [World.frozen?, hb]
  cases v <;> simp_all [prim, store, Sem.run]

theorem setCell_heap {w : World} {b off : Nat} {c : Array Value} {T : TypeId} {v : Value} (hb : w.heap[b]? = some (.cells c T (0, 0))) :
    (w.setCell ⟨b, off, none⟩ v).heap[b]? = some (.cells (c.setIfInBounds off v) T (0, 0)) := by
  simp [World.setCell, Array.getElem?_modify, hb]

theorem setCell_other {w : World} {b off : Nat} {v : Value} {k : Nat} (hk : k ≠ b) : (w.setCell ⟨b, off, none⟩ v).heap[k]? = w.heap[k]? := by
  simp only [World.setCell, Array.getElem?_modify]
  rw [if_neg (fun e => hk e.symm)]

/-- A world in which one block's cells are turned. -/
structure Turned (w w' : World) (b : Nat) (o : Obj) : Prop where
  os : w'.os = w.os
  tape : w'.tape = w.tape
  output : w'.output = w.output
  drawn : w'.drawn = w.drawn
  size : w'.heap.size = w.heap.size
  blk : w'.heap[b]? = some o
  ne : ∀ k, k ≠ b → w'.heap[k]? = w.heap[k]?

theorem lay_nil (c : List Value) (off : Nat) : lay c off [] = c := by simp [lay]

theorem lay_cons {c : List Value} {k : Nat} {v : Value} (r : List Value) (h : k < c.length) : lay (c.set k v) (k + 1) r = lay c k (v :: r) := by
  have hk : (c.take k).length = k := by simp; omega
  unfold lay
  rw [List.set_eq_take_append_cons_drop, if_pos h]
  have e1 : (c.take k ++ v :: c.drop (k + 1)).take (k + 1) = c.take k ++ [v] := by
    rw [List.take_append, hk, List.take_of_length_le (by omega), show k + 1 - k = 1 from by omega]
    simp
  have e2 : (c.take k ++ v :: c.drop (k + 1)).drop (k + 1 + r.length) = c.drop (k + (r.length + 1)) := by
    rw [List.drop_append, hk, List.drop_of_length_le (by omega), show k + 1 + r.length - k = r.length + 1 from by omega]
    simp only [List.drop_succ_cons, List.drop_drop, List.nil_append]
    congr 1
    omega
  rw [e1, e2]
  simp

theorem run_storeCells {b : Nat} {T : TypeId} : ∀ (vs : List Value) (w : World) (off i : Nat) (c : List Value), w.heap[b]? = some (ob c T) → off + i + vs.length ≤ c.length → oneCells vs = true →
    ∃ w', (storeCells ⟨b, off, none⟩ vs i).run P w = .ok () w' ∧ Turned w w' b (ob (lay c (off + i) vs) T)
  | [], w, off, i, c, hb, _, _ => ⟨w, by simp [storeCells], ⟨rfl, rfl, rfl, rfl, rfl, by rw [lay_nil]; exact hb, fun _ _ => rfl⟩⟩
  | v :: r, w, off, i, c, hb, hl, ho => by
    simp only [oneCells, List.all_cons, Bool.and_eq_true] at ho
    simp only [List.length_cons] at hl
    have ha : (⟨b, off, none⟩ : Addr).add i = ⟨b, off + i, none⟩ := by
      unfold Addr.add; split
      · rename_i h0; subst h0; rfl
      · rfl
    have h1 := run_store_blk (P := P) (off := off + i) (v := v) hb (by simp; omega) ho.1
    have h2 : (w.setCell ⟨b, off + i, none⟩ v).heap[b]? = some (ob (c.set (off + i) v) T) := by
      rw [setCell_heap hb]; simp
    obtain ⟨w', hr, ht⟩ := run_storeCells r (w.setCell ⟨b, off + i, none⟩ v) off (i + 1) (c.set (off + i) v) h2 (by simp; omega) ho.2
    refine ⟨w', ?_, ⟨ht.os, ht.tape, ht.output, ht.drawn, ?_, ?_, ?_⟩⟩
    · simp only [storeCells, Sem.run_bind, ha, h1, Result.andThen_ok, hr]
    · rw [ht.size]; simp [World.setCell]
    · rw [ht.blk]
      congr 2
      rw [show off + (i + 1) = (off + i) + 1 from by omega, lay_cons _ (by omega)]
    · intro k hk
      rw [ht.ne k hk, setCell_other hk]

theorem run_storeVar {w : World} {b off : Nat} {c : List Value} {T : TypeId} {v : Value} (ht : tyOf P t = some (n, g, z)) (hb : w.heap[b]? = some (ob c T)) (hn : v.cells.size = n) (hl : off + n ≤ c.length) (ho : oneCells v.cells.toList = true) :
    ∃ w', (storeVar t ⟨b, off, none⟩ v).run P w = .ok () w' ∧ Turned w w' b (ob (lay c off v.cells.toList) T) := by
  obtain ⟨w', h1, h2⟩ := run_storeCells (P := P) (T := T) v.cells.toList w off 0 c hb (by simp [hn]; omega) ho
  exact ⟨w', by simp [storeVar, run_sizeOf ht, hn, h1], h2⟩
end
end Go.Vg
end

section
namespace Go.Vg
open Go

def QR (P : Program) (a : Act) (w : World) (o : Oper) (v : Value) : Prop := (execOp a.eval o).run P w = .ok (.value v) w

abbrev vI (n : Int) : Value := .int .i64 n
abbrev v8 (b : UInt8) : Value := .int .u8 (b.toNat : Int)
abbrev v32 (x : UInt32) : Value := .int .u32 (x.toNat : Int)
abbrev v64 (x : UInt64) : Value := .int .u64 (x.toNat : Int)
abbrev vp (b off : Nat) : Value := .pointer (some ⟨b, off, none⟩)

section
variable {P : Program} {n : Sh} {a : Act} {E : List (Nat × Value)} {w : World} {dst : Option Tmp} {ty : TypeId} {pos : String} {af : Array Edge} {gd : Option (Nat × Bool)}

theorem q_move (hT : Tm n a E) {x : Operand} {v : Value} (hx : evO E x = some v) : QR P a w ⟨dst, .move x, ty, pos, af, gd⟩ v := by
  simp [QR, execOp, hT.ev hx]
theorem q_assign (hT : Tm n a E) {x : Operand} {v : Value} (hx : evO E x = some v) : QR P a w ⟨dst, .assign x, ty, pos, af, gd⟩ v := by
  simp [QR, execOp, hT.ev hx]
theorem q_pick (hT : Tm n a E) {c x y : Operand} {b : Bool} {u v : Value} (hc : evO E c = some (.bool b)) (hx : evO E x = some u) (hy : evO E y = some v) :
    QR P a w ⟨dst, .pick c x y, ty, pos, af, gd⟩ (if b then u else v) := by
  simp [QR, execOp, hT.ev hc, hT.ev hx, hT.ev hy, asBool]

/-! loads -/
theorem q_load_agg (hT : Tm n a E) {t : TypeId} {x : Operand} {b off m : Nat} {z cs : List Value} (hx : evO E x = some (vp b off)) (ht : tyOf P t = some (m, true, z)) (h : Rd w b off cs) (hn : cs.length = m) :
    QR P a w ⟨dst, .load t x, ty, pos, af, gd⟩ (.agg cs.toArray) := by
  simp [QR, execOp, hT.ev hx, Instr.loadAt, Instr.sureAddr, run_loadVar_agg ht h hn]
theorem q_load (hT : Tm n a E) {t : TypeId} {x : Operand} {b off m : Nat} {z : List Value} {v : Value} (hx : evO E x = some (vp b off)) (ht : tyOf P t = some (m, false, z)) (h : Rd w b off [v]) :
    QR P a w ⟨dst, .load t x, ty, pos, af, gd⟩ v := by
  simp [QR, execOp, hT.ev hx, Instr.loadAt, Instr.sureAddr, run_loadVar_prim ht h]

/-! places -/
/-- A field: its place, its size, is it a struct or an array. -/
def fldOf (P : Program) (s : TypeId) (f : Nat) : Option (Nat × Nat × Bool) :=
  match P.underlying s with
  | some (.struct fs) => match fs[f]? with
    | some fl => match tyOf P fl.type with
      | some (m, g, _) => some (fl.offset, m, g)
      | none => none
    | none => none
  | _ => none

theorem fldSpec {s : TypeId} {f off m : Nat} {g : Bool} (h : fldOf P s f = some (off, m, g)) : ∃ fs fl z, P.underlying s = some (.struct fs) ∧ fs[f]? = some fl ∧ fl.offset = off ∧ tyOf P fl.type = some (m, g, z) := by
  unfold fldOf at h
  split at h
  · rename_i fs hu
    split at h
    · rename_i fl hf
      split at h
      · rename_i m' g' z ht
        simp only [Option.some.injEq, Prod.mk.injEq] at h
        obtain ⟨h1, h2, h3⟩ := h
        subst h2; subst h3
        exact ⟨fs, fl, z, hu, hf, h1, ht⟩
      · cases h
    · cases h
  · cases h

theorem add_none (b off k : Nat) : (⟨b, off, none⟩ : Addr).add k = ⟨b, off + k, none⟩ := by
  unfold Addr.add; split
  · rename_i h; subst h; rfl
  · rfl

theorem q_fieldAddr (hT : Tm n a E) {s : TypeId} {x : Operand} {f b off off' k m : Nat} {g : Bool} (hx : evO E x = some (vp b off)) (hf : fldOf P s f = some (k, m + 1, g)) (ho : off + k = off') :
    QR P a w ⟨dst, .fieldAddr s x f, ty, pos, af, gd⟩ (vp b off') := by
  obtain ⟨fs, fl, z, hu, hg, hk, ht⟩ := fldSpec hf
  subst ho; subst hk
  simp [QR, execOp, hT.ev hx, Instr.fieldAt, Instr.sureAddr, run_underlying hu, hg, fieldPlace, run_sizeOf ht, add_none]

theorem run_part_agg {t : TypeId} {m off : Nat} {z : List Value} {cs : List Value} (ht : tyOf P t = some (m, true, z)) {ds : List Value} (hd : (cs.drop off).take m = ds) :
    (part t cs.toArray off).run P w = .ok (.agg ds.toArray) w := by
  subst hd
  simp [part, run_isAgg ht, run_sizeOf ht]
theorem run_part {t : TypeId} {m off : Nat} {z : List Value} {cs : List Value} (ht : tyOf P t = some (m, false, z)) {v : Value} (hd : cs[off]? = some v) :
    (part t cs.toArray off).run P w = .ok v w := by
  have hd' : cs.toArray[off]? = some v := by simpa using hd
  simp [part, run_isAgg ht, hd']

theorem q_field_agg (hT : Tm n a E) {s : TypeId} {x : Operand} {f k m : Nat} {cs ds : List Value} (hx : evO E x = some (.agg cs.toArray)) (hf : fldOf P s f = some (k, m, true)) (hd : (cs.drop k).take m = ds) :
    QR P a w ⟨dst, .field s x f, ty, pos, af, gd⟩ (.agg ds.toArray) := by
  obtain ⟨fs, fl, z, hu, hg, hk, ht⟩ := fldSpec hf
  subst hk
  simp [QR, execOp, hT.ev hx, Instr.field, run_underlying hu, hg, asAgg, run_part_agg ht hd]
theorem q_field (hT : Tm n a E) {s : TypeId} {x : Operand} {f k m : Nat} {cs : List Value} {v : Value} (hx : evO E x = some (.agg cs.toArray)) (hf : fldOf P s f = some (k, m, false)) (hd : cs[k]? = some v) :
    QR P a w ⟨dst, .field s x f, ty, pos, af, gd⟩ v := by
  obtain ⟨fs, fl, z, hu, hg, hk, ht⟩ := fldSpec hf
  subst hk
  simp [QR, execOp, hT.ev hx, Instr.field, run_underlying hu, hg, asAgg, run_part ht hd]

/-- An element type: its size, is it a struct or an array. -/
def elmOf (P : Program) (t : TypeId) : Option (TypeId × Nat × Bool) :=
  match P.underlying t with
  | some (.slice e) | some (.array _ e) => match tyOf P e with
    | some (m, g, _) => some (e, m, g)
    | none => none
  | _ => none

def isSlice (P : Program) (t : TypeId) : Option (TypeId × Nat) :=
  match P.underlying t with
  | some (.slice e) => match tyOf P e with
    | some (m, _, _) => some (e, m)
    | none => none
  | _ => none
theorem isSlice_spec {t e : TypeId} {m : Nat} (h : isSlice P t = some (e, m)) : ∃ g z, P.underlying t = some (.slice e) ∧ tyOf P e = some (m, g, z) := by
  unfold isSlice at h
  split at h
  · rename_i e' hu
    split at h
    · rename_i m' g z ht
      simp only [Option.some.injEq, Prod.mk.injEq] at h
      obtain ⟨h1, h2⟩ := h
      subst h1; subst h2
      exact ⟨g, z, hu, ht⟩
    · cases h
  · cases h
/-- An array type: its length, its element type and that one's size. -/
def isArray (P : Program) (t : TypeId) : Option (Nat × TypeId × Nat × Bool) :=
  match P.underlying t with
  | some (.array l e) => match tyOf P e with
    | some (m, g, _) => some (l, e, m, g)
    | none => none
  | _ => none
theorem isArray_spec {t e : TypeId} {l m : Nat} {g : Bool} (h : isArray P t = some (l, e, m, g)) : ∃ z, P.underlying t = some (.array l e) ∧ tyOf P e = some (m, g, z) := by
  unfold isArray at h
  split at h
  · rename_i l' e' hu
    split at h
    · rename_i m' g' z ht
      simp only [Option.some.injEq, Prod.mk.injEq] at h
      obtain ⟨h1, h2, h3, h4⟩ := h
      subst h1; subst h2; subst h3; subst h4
      exact ⟨z, hu, ht⟩
    · cases h
  · cases h

theorem q_indexAddr (hT : Tm n a E) {t e : TypeId} {x y : Operand} {b off len cap m : Nat} {k : IntKind} {i : Int} (hx : evO E x = some (.slice (some ⟨b, off, none⟩) len cap)) (hy : evO E y = some (.int k i))
    (ht : isSlice P t = some (e, m)) (h0 : 0 ≤ i) (h1 : i < (len : Int)) : QR P a w ⟨dst, .indexAddr t x y, ty, pos, af, gd⟩ (vp b (off + i.toNat * m)) := by
  obtain ⟨g, z, hu, hs⟩ := isSlice_spec ht
  simp [QR, execOp, hT.ev hx, hT.ev hy, Instr.indexAt, run_underlying hu, asIntOf, h0, h1, run_sizeOf hs, add_none]
theorem q_indexAddr_arr (hT : Tm n a E) {t e : TypeId} {x y : Operand} {b off len m : Nat} {g : Bool} {k : IntKind} {i : Int} (hx : evO E x = some (vp b off)) (hy : evO E y = some (.int k i))
    (ht : isArray P t = some (len, e, m, g)) (h0 : 0 ≤ i) (h1 : i < (len : Int)) : QR P a w ⟨dst, .indexAddr t x y, ty, pos, af, gd⟩ (vp b (off + i.toNat * m)) := by
  obtain ⟨z, hu, hs⟩ := isArray_spec ht
  simp [QR, execOp, hT.ev hx, hT.ev hy, Instr.indexAt, Instr.sureAddr, run_underlying hu, asIntOf, h0, h1, run_sizeOf hs, add_none]
theorem q_index_arr (hT : Tm n a E) {t e : TypeId} {x y : Operand} {len m : Nat} {k : IntKind} {i : Int} {cs : List Value} {v : Value} (hx : evO E x = some (.agg cs.toArray)) (hy : evO E y = some (.int k i))
    (ht : isArray P t = some (len, e, m, false)) (h0 : 0 ≤ i) (h1 : i < (len : Int)) (hv : cs[i.toNat * m]? = some v) : QR P a w ⟨dst, .index t x y, ty, pos, af, gd⟩ v := by
  obtain ⟨z, hu, hs⟩ := isArray_spec ht
  simp [QR, execOp, hT.ev hx, hT.ev hy, Instr.index, run_underlying hu, asIntOf, h0, h1, run_sizeOf hs, run_part hs hv]
theorem q_index_str (hT : Tm n a E) {t : TypeId} {x y : Operand} {k : IntKind} {i : Int} {s : ByteArray} {u : UInt8} (hx : evO E x = some (.string s)) (hy : evO E y = some (.int k i))
    (ht : P.underlying t = some .string) (h0 : 0 ≤ i) (hv : s[i.toNat]? = some u) : QR P a w ⟨dst, .index t x y, ty, pos, af, gd⟩ (v8 u) := by
  simp [QR, execOp, hT.ev hx, hT.ev hy, Instr.index, run_underlying ht, asIntOf, h0, hv]

theorem q_nilCheck (hT : Tm n a E) {x : Operand} {ad : Addr} (hx : evO E x = some (.pointer (some ad))) : QR P a w ⟨dst, .nilCheck x, ty, pos, af, gd⟩ (.pointer (some ad)) := by
  simp [QR, execOp, hT.ev hx]
theorem q_extract (hT : Tm n a E) {x : Operand} {i : Nat} {vs : Array Value} {v : Value} (hx : evO E x = some (.tuple vs)) (hv : vs[i]? = some v) : QR P a w ⟨dst, .extract x i, ty, pos, af, gd⟩ v := by
  simp [QR, execOp, hT.ev hx, Instr.extract, hv]
theorem map_ev (hT : Tm n a E) {xs : Array Operand} {l : List Operand} (hl : xs = l.toArray) {vs : List Value} (h : evL E l = some vs) : xs.map a.eval = vs.toArray := by
  subst hl
  simp [hT.evL h]
theorem q_makeFunc (hT : Tm n a E) {fn : Fn} {fs cs : List Operand} {vf vc : List Value} (hf : evL E fs = some vf) (hc : evL E cs = some vc) :
    QR P a w ⟨dst, .makeFunc fn fs.toArray cs.toArray, ty, pos, af, gd⟩ (.func fn vf.toArray vc.toArray) := by
  simp [QR, execOp, Instr.makeFunc, hT.evL hf, hT.evL hc]

/-! arithmetic -/
theorem wrap_i64_id {z : Int} (h0 : -9223372036854775808 ≤ z) (h1 : z < 9223372036854775808) : IntKind.i64.wrap z = z := by
  rw [IntKind.wrap_i64]
  omega
theorem wrap_u8 (z : Int) : IntKind.u8.wrap z = z % 256 := by simp [IntKind.wrap, IntKind.bits, IntKind.signed]
theorem wrap_u32 (z : Int) : IntKind.u32.wrap z = z % 4294967296 := by simp [IntKind.wrap, IntKind.bits, IntKind.signed]
theorem wrap_u64 (z : Int) : IntKind.u64.wrap z = z % 18446744073709551616 := by simp [IntKind.wrap, IntKind.bits, IntKind.signed]

theorem run_guard_int {op : BinOp} {t : TypeId} {x y : Operand} {k k' : IntKind} {i j : Int} : (eqGuard op t x y (.int k i) (.int k' j)).run P w = .ok () w := by
  simp only [eqGuard]
  split <;> simp

theorem q_bin (hT : Tm n a E) {op : BinOp} {t yt : TypeId} {x y : Operand} {u v r : Value} (hx : evO E x = some u) (hy : evO E y = some v)
    (hg : (eqGuard op t x y u v).run P w = .ok () w) (hr : (binOp op t u v).run P w = .ok r w) : QR P a w ⟨dst, .binOp op t x y yt, ty, pos, af, gd⟩ r := by
  simp [QR, execOp, hT.ev hx, hT.ev hy, hg, hr]

theorem q_add (hT : Tm n a E) {t yt : TypeId} {x y : Operand} {k : IntKind} {i j : Int} (hx : evO E x = some (.int k i)) (hy : evO E y = some (.int k j)) : QR P a w ⟨dst, .binOp .add t x y yt, ty, pos, af, gd⟩ (.int k (k.wrap (i + j))) :=
  q_bin hT hx hy run_guard_int (by simp [binOp, Op.intArith])
theorem q_sub (hT : Tm n a E) {t yt : TypeId} {x y : Operand} {k : IntKind} {i j : Int} (hx : evO E x = some (.int k i)) (hy : evO E y = some (.int k j)) : QR P a w ⟨dst, .binOp .sub t x y yt, ty, pos, af, gd⟩ (.int k (k.wrap (i - j))) :=
  q_bin hT hx hy run_guard_int (by simp [binOp, Op.intArith])
theorem q_mul (hT : Tm n a E) {t yt : TypeId} {x y : Operand} {k : IntKind} {i j : Int} (hx : evO E x = some (.int k i)) (hy : evO E y = some (.int k j)) : QR P a w ⟨dst, .binOp .mul t x y yt, ty, pos, af, gd⟩ (.int k (k.wrap (i * j))) :=
  q_bin hT hx hy run_guard_int (by simp [binOp, Op.intArith])
/-- The three in int, within its bounds. -/
theorem q_addI (hT : Tm n a E) {t yt : TypeId} {x y : Operand} {i j r : Int} (hx : evO E x = some (vI i)) (hy : evO E y = some (vI j)) (hr : i + j = r) (h0 : -9223372036854775808 ≤ r) (h1 : r < 9223372036854775808) : QR P a w ⟨dst, .binOp .add t x y yt, ty, pos, af, gd⟩ (vI r) := by
  have := q_add (P := P) (w := w) (dst := dst) (ty := ty) (pos := pos) (af := af) (gd := gd) (t := t) (yt := yt) hT hx hy
  rwa [hr, wrap_i64_id h0 h1] at this
theorem q_subI (hT : Tm n a E) {t yt : TypeId} {x y : Operand} {i j r : Int} (hx : evO E x = some (vI i)) (hy : evO E y = some (vI j)) (hr : i - j = r) (h0 : -9223372036854775808 ≤ r) (h1 : r < 9223372036854775808) : QR P a w ⟨dst, .binOp .sub t x y yt, ty, pos, af, gd⟩ (vI r) := by
  have := q_sub (P := P) (w := w) (dst := dst) (ty := ty) (pos := pos) (af := af) (gd := gd) (t := t) (yt := yt) hT hx hy
  rwa [hr, wrap_i64_id h0 h1] at this
theorem q_mulI (hT : Tm n a E) {t yt : TypeId} {x y : Operand} {i j r : Int} (hx : evO E x = some (vI i)) (hy : evO E y = some (vI j)) (hr : i * j = r) (h0 : -9223372036854775808 ≤ r) (h1 : r < 9223372036854775808) : QR P a w ⟨dst, .binOp .mul t x y yt, ty, pos, af, gd⟩ (vI r) := by
  have := q_mul (P := P) (w := w) (dst := dst) (ty := ty) (pos := pos) (af := af) (gd := gd) (t := t) (yt := yt) hT hx hy
  rwa [hr, wrap_i64_id h0 h1] at this
theorem q_lss (hT : Tm n a E) {t yt : TypeId} {x y : Operand} {k : IntKind} {i j : Int} (hx : evO E x = some (.int k i)) (hy : evO E y = some (.int k j)) : QR P a w ⟨dst, .binOp .lss t x y yt, ty, pos, af, gd⟩ (.bool (decide (i < j))) :=
  q_bin hT hx hy run_guard_int (by simp [binOp, Op.intCmp])
theorem q_leq (hT : Tm n a E) {t yt : TypeId} {x y : Operand} {k : IntKind} {i j : Int} (hx : evO E x = some (.int k i)) (hy : evO E y = some (.int k j)) : QR P a w ⟨dst, .binOp .leq t x y yt, ty, pos, af, gd⟩ (.bool (decide (i ≤ j))) :=
  q_bin hT hx hy run_guard_int (by simp [binOp, Op.intCmp])
theorem q_gtr (hT : Tm n a E) {t yt : TypeId} {x y : Operand} {k : IntKind} {i j : Int} (hx : evO E x = some (.int k i)) (hy : evO E y = some (.int k j)) : QR P a w ⟨dst, .binOp .gtr t x y yt, ty, pos, af, gd⟩ (.bool (decide (j < i))) :=
  q_bin hT hx hy run_guard_int (by simp [binOp, Op.intCmp])
theorem q_geq (hT : Tm n a E) {t yt : TypeId} {x y : Operand} {k : IntKind} {i j : Int} (hx : evO E x = some (.int k i)) (hy : evO E y = some (.int k j)) : QR P a w ⟨dst, .binOp .geq t x y yt, ty, pos, af, gd⟩ (.bool (decide (j ≤ i))) :=
  q_bin hT hx hy run_guard_int (by simp [binOp, Op.intCmp])
theorem q_eql (hT : Tm n a E) {t yt : TypeId} {x y : Operand} {k : IntKind} {i j : Int} (hx : evO E x = some (.int k i)) (hy : evO E y = some (.int k j)) : QR P a w ⟨dst, .binOp .eql t x y yt, ty, pos, af, gd⟩ (.bool (decide (i = j))) :=
  q_bin hT hx hy run_guard_int (by simp [binOp, Op.intCmp, BEq.beq])
theorem q_neq (hT : Tm n a E) {t yt : TypeId} {x y : Operand} {k : IntKind} {i j : Int} (hx : evO E x = some (.int k i)) (hy : evO E y = some (.int k j)) : QR P a w ⟨dst, .binOp .neq t x y yt, ty, pos, af, gd⟩ (.bool (decide (i ≠ j))) :=
  q_bin hT hx hy run_guard_int (by
    have : (i != j) = decide (i ≠ j) := by by_cases h : i = j <;> simp [h]
    simp [binOp, Op.intCmp, this])
theorem q_not (hT : Tm n a E) {t : TypeId} {x : Operand} {b : Bool} (hx : evO E x = some (.bool b)) : QR P a w ⟨dst, .unOp .not t x, ty, pos, af, gd⟩ (.bool (!b)) := by
  simp [QR, execOp, hT.ev hx, Op.unary]
/-- '/' and '%' of int, neither negative. -/
theorem q_quoI (hT : Tm n a E) {t yt : TypeId} {x y : Operand} {i j : Int} (hx : evO E x = some (vI i)) (hy : evO E y = some (vI j)) (hi : 0 ≤ i) (hi' : i < 9223372036854775808) (hj : 0 < j) : QR P a w ⟨dst, .binOp .quo t x y yt, ty, pos, af, gd⟩ (vI (i / j)) :=
  q_bin hT hx hy run_guard_int (by
    have h0 : j ≠ 0 := by omega
    have e : i.tdiv j = i / j := by rw [Int.tdiv_eq_ediv_of_nonneg hi]
    have h2 : i / j ≤ i := Int.ediv_le_self j hi
    have h3 : 0 ≤ i / j := Int.ediv_nonneg hi (by omega)
    simp [binOp, Op.intDiv, h0, e, wrap_i64_id (show -9223372036854775808 ≤ i / j by omega) (by omega)])
theorem q_remI (hT : Tm n a E) {t yt : TypeId} {x y : Operand} {i j : Int} (hx : evO E x = some (vI i)) (hy : evO E y = some (vI j)) (hi : 0 ≤ i) (hj : 0 < j) : QR P a w ⟨dst, .binOp .rem t x y yt, ty, pos, af, gd⟩ (vI (i % j)) :=
  q_bin hT hx hy run_guard_int (by
    have h0 : j ≠ 0 := by omega
    have e : i.tmod j = i % j := by rw [Int.tmod_eq_emod_of_nonneg hi]
    simp [binOp, Op.intDiv, h0, e])
theorem q_conv_int (hT : Tm n a E) {s d : TypeId} {x : Operand} {k k' : IntKind} {i : Int} {ds : TypeDesc} (hx : evO E x = some (.int k i)) (hs : P.underlying s = some ds) (hd : P.underlying d = some (.int k')) : QR P a w ⟨dst, .convert s d x, ty, pos, af, gd⟩ (.int k' (k'.wrap i)) := by
  cases ds <;> simp [QR, execOp, hT.ev hx, convert, run_underlying hs, run_underlying hd, Conv.intToInt]

theorem q_conv_unsafe (hT : Tm n a E) {s d t : TypeId} {x : Operand} {ad : Addr} {v : Value} (hx : evO E x = some (.pointer (some ad))) (hs : P.underlying s = some (.pointer t)) (hd : P.underlying d = some .unsafePointer) (hsz : (P.info? t).map (fun i => decide (i.size = 0)) = some false) (hc : w.cell? ad = some v) :
    QR P a w ⟨dst, .convert s d x, ty, pos, af, gd⟩ (.pointer (some ad)) := by
  simp [QR, execOp, hT.ev hx, run_convert_to_unsafe hs hd hsz hc]

/-! nil -/
theorem run_equalIn_ptr_nil {t e : TypeId} (d : Nat) (p : Option Addr) (ht : P.underlying t = some (.pointer e)) : (Op.equalIn (d + 1) t (.pointer p) (.pointer none)).run P w = .ok p.isNone w := by
  unfold Op.equalIn
  cases p <;> simp [run_underlying ht]
theorem run_equal_ptr_nil {t e : TypeId} (p : Option Addr) (ht : P.underlying t = some (.pointer e)) : (Op.equal t (.pointer p) (.pointer none)).run P w = .ok p.isNone w := run_equalIn_ptr_nil 9999 p ht
theorem q_eq_nil (hT : Tm n a E) {t e yt : TypeId} {x y : Operand} {p : Option Addr} (hx : evO E x = some (.pointer p)) (hy : evO E y = some (.pointer none)) (ht : P.underlying t = some (.pointer e)) : QR P a w ⟨dst, .binOp .eql t x y yt, ty, pos, af, gd⟩ (.bool p.isNone) :=
  q_bin hT hx hy (by simp [eqGuard]) (by simp only [binOp, Sem.run_bind, run_equal_ptr_nil p ht, Result.andThen_ok, Sem.run_pure])
theorem q_ne_nil (hT : Tm n a E) {t e yt : TypeId} {x y : Operand} {p : Option Addr} (hx : evO E x = some (.pointer p)) (hy : evO E y = some (.pointer none)) (ht : P.underlying t = some (.pointer e)) : QR P a w ⟨dst, .binOp .neq t x y yt, ty, pos, af, gd⟩ (.bool p.isSome) :=
  q_bin hT hx hy (by simp [eqGuard]) (by
    have : (!p.isNone) = p.isSome := by cases p <;> rfl
    simp only [binOp, Sem.run_bind, run_equal_ptr_nil p ht, Result.andThen_ok, Sem.run_pure, this])

/-! builtins -/
theorem q_len_slice (hT : Tm n a E) {x : Operand} {t e : TypeId} {p : Option Addr} {l c : Nat} (hx : evO E x = some (.slice p l c)) (ht : P.underlying t = some (.slice e)) : QR P a w ⟨dst, .call { callee := .builtin .len, args := #[x], argTypes := #[t] }, ty, pos, af, gd⟩ (vI l) := by
  simp [QR, execOp, resolve, invoke, builtin, Builtin.len_, hT.ev hx, run_underlying ht, goInt]
theorem q_len_str (hT : Tm n a E) {x : Operand} {t : TypeId} {s : ByteArray} (hx : evO E x = some (.string s)) (ht : P.underlying t = some .string) : QR P a w ⟨dst, .call { callee := .builtin .len, args := #[x], argTypes := #[t] }, ty, pos, af, gd⟩ (vI s.size) := by
  simp [QR, execOp, resolve, invoke, builtin, Builtin.len_, hT.ev hx, run_underlying ht, goInt]
end
end Go.Vg
end
