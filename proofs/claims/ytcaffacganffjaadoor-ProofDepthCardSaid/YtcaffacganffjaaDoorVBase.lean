/- A small theory of walks over opaque acts and worlds: live temporaries (Tm), a frame with blocks of the call's own (Loc), one lemma for each operation. -/
import Derived.Orders
import Derived.RowKit
import Derived.Below
import Derived.WalkKit
namespace Go.Vg
open Go

/-! ### Temporaries -/
def look : List (Nat × Value) → Nat → Option Value
  | [], _ => none
  | (k, v) :: r, t => match Nat.beq k t with
    | true => some v
    | false => look r t

/-- How many temporaries, and the calls that are deferred. -/
structure Sh where
  n : Nat
  ds : List Deferred
instance (k : Nat) : OfNat Sh k := ⟨⟨k, []⟩⟩
structure Tm (n : Sh) (a : Act) (E : List (Nat × Value)) : Prop where
  size : a.tmps.size = n.n
  defers : a.defers = n.ds
  get : ∀ t v, look E t = some v → a.tmps[t]? = some v

theorem Tm.put {n : Sh} {a : Act} {E : List (Nat × Value)} (h : Tm n a E) (d : Nat) (hd : d < n.n) (v : Value) : Tm n (a.put (some d) v) ((d, v) :: E) where
  size := by simp [Act.put, h.size]
  defers := h.defers
  get := by
    intro t u hl
    simp only [look] at hl
    simp only [Act.put]
    cases hb : Nat.beq d t with
    | true =>
      rw [hb] at hl
      have : d = t := Nat.eq_of_beq_eq_true hb
      subst this
      simp only [Option.some.injEq] at hl
      subst hl
      rw [Array.getElem?_setIfInBounds_self_of_lt (by rw [h.size]; exact hd)]
    | false =>
      rw [hb] at hl
      have hne : d ≠ t := fun e => by subst e; rw [Nat.beq_refl] at hb; cases hb
      rw [Array.getElem?_setIfInBounds_ne hne]
      exact h.get t u hl

theorem Tm.put_none {n : Sh} {a : Act} {E : List (Nat × Value)} (h : Tm n a E) (v : Value) : Tm n (a.put none v) E := h

def pick (E : List (Nat × Value)) : List Nat → List (Nat × Value)
  | [] => []
  | k :: ks => match look E k with
    | some v => (k, v) :: pick E ks
    | none => pick E ks

theorem look_pick {E : List (Nat × Value)} : ∀ (ks : List Nat) (t : Nat) (v : Value), look (pick E ks) t = some v → look E t = some v
  | [], _, _, h => by simp [pick, look] at h
  | k :: ks, t, v, h => by
    unfold pick at h
    cases hk : look E k with
    | none => rw [hk] at h; exact look_pick ks t v h
    | some u =>
      rw [hk] at h
      simp only [look] at h
      cases hb : Nat.beq k t with
      | true =>
        rw [hb] at h
        have : k = t := Nat.eq_of_beq_eq_true hb
        subst this
        simp only [Option.some.injEq] at h
        subst h
        exact hk
      | false => rw [hb] at h; exact look_pick ks t v h

theorem Tm.keep {n : Sh} {a : Act} {E : List (Nat × Value)} (h : Tm n a E) (ks : List Nat) {E' : List (Nat × Value)} (he : pick E ks = E') : Tm n a E' :=
  ⟨h.size, h.defers, fun t v hl => h.get t v (look_pick ks t v (he ▸ hl))⟩

def evO (E : List (Nat × Value)) : Operand → Option Value
  | .tmp t => look E t
  | .const v => some v
  | .global g => some (.pointer (some ⟨g, 0, none⟩))
  | .func f => some (.func (.func f) #[] #[])

theorem Tm.ev {n : Sh} {a : Act} {E : List (Nat × Value)} (h : Tm n a E) {x : Operand} {v : Value} (hx : evO E x = some v) : a.eval x = v := by
  cases x with
  | tmp t =>
    have := h.get t v hx
    simp only [Act.eval]
    rw [Array.getD_eq_getD_getElem?, this]
    rfl
  | const v => simpa [evO, Act.eval] using hx
  | global g => simpa [evO, Act.eval] using hx
  | func f => simpa [evO, Act.eval] using hx

def evL (E : List (Nat × Value)) : List Operand → Option (List Value)
  | [] => some []
  | x :: r => match evO E x, evL E r with
    | some v, some vs => some (v :: vs)
    | _, _ => none

theorem Tm.evL {n : Sh} {a : Act} {E : List (Nat × Value)} (h : Tm n a E) : ∀ {xs : List Operand} {vs : List Value}, Vg.evL E xs = some vs → xs.map a.eval = vs
  | [], vs, hx => by simp [Vg.evL] at hx; simp [hx]
  | x :: r, vs, hx => by
    simp only [Vg.evL] at hx
    split at hx
    · rename_i v us h1 h2
      simp only [Option.some.injEq] at hx
      subst hx
      simp [h.ev h1, h.evL h2]
    · cases hx

theorem Tm.init (args : List Value) (n : Nat) (h : args.length ≤ n) {E : List (Nat × Value)} (hE : (args.zipIdx.map fun p => (p.2, p.1)) = E) :
    Tm ⟨n, []⟩ ⟨args.toArray ++ Array.replicate (n - args.toArray.size) undef, []⟩ E where
  size := by simp; omega
  defers := rfl
  get := by
    subst hE
    have key : ∀ (l : List Value) (k t : Nat) (v : Value), look ((l.zipIdx k).map fun p => (p.2, p.1)) t = some v → k ≤ t ∧ l[t - k]? = some v := by
      intro l
      induction l with
      | nil => intro k t v hl; simp [look] at hl
      | cons x r ih =>
        intro k t v hl
        simp only [List.zipIdx_cons, List.map_cons, look] at hl
        cases hb : Nat.beq k t with
        | true =>
          rw [hb] at hl
          have : k = t := Nat.eq_of_beq_eq_true hb
          subst this
          simpa using hl
        | false =>
          rw [hb] at hl
          have hne : k ≠ t := fun e => by subst e; rw [Nat.beq_refl] at hb; cases hb
          obtain ⟨h1, h2⟩ := ih (k + 1) t v hl
          refine ⟨by omega, ?_⟩
          rw [show t - k = (t - (k + 1)) + 1 from by omega]
          simpa using h2
    intro t v hl
    obtain ⟨_, h2⟩ := key args 0 t v hl
    simp only [Nat.sub_zero] at h2
    have hlt : t < args.length := (List.getElem?_eq_some_iff.1 h2).1
    rw [Array.getElem?_append_left (by simpa using hlt)]
    simpa using h2

/-! ### The frame: old blocks, and chunks of the call's own -/
abbrev Entry := Nat × Obj
abbrev Chunk := List Entry
def keys (cs : List Chunk) : List Nat := cs.flatten.map (·.1)
abbrev ob (c : List Value) (T : TypeId) : Obj := .cells c.toArray T (0, 0)

structure Loc (M : List Nat) (w0 w : World) (cs : List Chunk) : Prop where
  os : w.os = w0.os
  tape : w.tape = w0.tape
  output : w.output = w0.output
  drawn : w0.drawn ≤ w.drawn
  size : w0.heap.size ≤ w.heap.size
  old : ∀ b, b < w0.heap.size → b ∉ M → w.heap[b]? = w0.heap[b]?
  nd : (keys cs).Nodup
  own : ∀ b ∈ keys cs, w0.heap.size ≤ b ∨ b ∈ M
  has : ∀ p ∈ cs.flatten, w.heap[p.1]? = some p.2

abbrev Ext (w0 w : World) : Prop := Loc [] w0 w []

theorem Ext.refl (w : World) : Ext w w := ⟨rfl, rfl, rfl, Nat.le_refl _, Nat.le_refl _, fun _ _ _ => rfl, List.nodup_nil, by simp [keys], by simp⟩
theorem Loc.refl (M : List Nat) (w : World) : Loc M w w [] := ⟨rfl, rfl, rfl, Nat.le_refl _, Nat.le_refl _, fun _ _ _ => rfl, List.nodup_nil, by simp [keys], by simp⟩

theorem Loc.below {w0 w : World} {cs : List Chunk} (h : Loc [] w0 w cs) : RowKit.Below w0.heap.size w0 w := ⟨h.os, h.tape, h.output, h.size, fun k hk => h.old k hk (by simp)⟩

theorem lt_of_heap {w : World} {b : Nat} {o : Obj} (h : w.heap[b]? = some o) : b < w.heap.size := (Array.getElem?_eq_some_iff.1 h).1

theorem Loc.lt {M : List Nat} {w0 w : World} {cs : List Chunk} (h : Loc M w0 w cs) {b : Nat} (hb : b ∈ keys cs) : b < w.heap.size := by
  simp only [keys, List.mem_map] at hb
  obtain ⟨p, hp, rfl⟩ := hb
  exact lt_of_heap (h.has p hp)

theorem Loc.drop {M : List Nat} {w0 w : World} {cs : List Chunk} (h : Loc M w0 w cs) : Loc M w0 w [] :=
  ⟨h.os, h.tape, h.output, h.drawn, h.size, h.old, List.nodup_nil, by simp [keys], by simp⟩

theorem sub_flatten {cs' cs : List Chunk} (h : cs'.Sublist cs) : cs'.flatten.Sublist cs.flatten := by
  induction h with
  | slnil => exact List.Sublist.refl _
  | cons a _ ih => exact ih.trans (List.sublist_append_right _ _)
  | cons_cons a _ ih => exact List.Sublist.append (List.Sublist.refl _) ih

/-- A sublist of the chunks. -/
theorem Loc.sub {M : List Nat} {w0 w : World} {cs cs' : List Chunk} (h : Loc M w0 w cs) (hs : cs'.Sublist cs) : Loc M w0 w cs' where
  os := h.os
  tape := h.tape
  output := h.output
  drawn := h.drawn
  size := h.size
  old := h.old
  nd := h.nd.sublist ((sub_flatten hs).map _)
  own := fun b hb => h.own b (((sub_flatten hs).map _).subset hb)
  has := fun p hp => h.has p ((sub_flatten hs).subset hp)

theorem Loc.perm {M : List Nat} {w0 w : World} {cs cs' : List Chunk} (h : Loc M w0 w cs) (hs : cs.flatten.Perm cs'.flatten) : Loc M w0 w cs' where
  os := h.os
  tape := h.tape
  output := h.output
  drawn := h.drawn
  size := h.size
  old := h.old
  nd := (List.Perm.nodup_iff (hs.map _)).1 h.nd
  own := fun b hb => h.own b ((hs.map _).mem_iff.2 hb)
  has := fun p hp => h.has p (hs.mem_iff.2 hp)

theorem Loc.drew {M : List Nat} {w0 w : World} {cs : List Chunk} (h : Loc M w0 w cs) : Loc M w0 w.drew cs := ⟨h.os, h.tape, h.output, Nat.le_succ_of_le h.drawn, h.size, h.old, h.nd, h.own, h.has⟩

theorem Loc.alloc {M : List Nat} {w0 w : World} {cs : List Chunk} (h : Loc M w0 w cs) (o : Obj) : Loc M w0 { w with heap := w.heap.push o } ([(w.heap.size, o)] :: cs) where
  os := h.os
  tape := h.tape
  output := h.output
  drawn := h.drawn
  size := by have := h.size; simp; omega
  old := fun b hb hm => by
    have := h.size
    simp only [Array.getElem?_push]
    rw [if_neg (by omega)]
    exact h.old b hb hm
  nd := by
    simp only [keys, List.flatten_cons, List.singleton_append, List.map_cons, List.nodup_cons]
    exact ⟨fun hm => by have := h.lt hm; omega, h.nd⟩
  own := by
    intro b hb
    simp only [keys, List.flatten_cons, List.singleton_append, List.map_cons, List.mem_cons] at hb
    rcases hb with rfl | hb
    · exact .inl h.size
    · exact h.own b hb
  has := by
    intro p hp
    simp only [List.flatten_cons, List.singleton_append, List.mem_cons] at hp
    rcases hp with rfl | hp
    · simp
    · have := lt_of_heap (h.has p hp)
      simp only [Array.getElem?_push]
      rw [if_neg (by omega)]
      exact h.has p hp

/-- Chunk number i is one block; its cells are turned. -/
theorem Loc.mod {M : List Nat} {w0 w : World} {cs : List Chunk} (h : Loc M w0 w cs) {i b : Nat} {o o' : Obj} (hi : cs[i]? = some [(b, o)])
    {w' : World} (hos : w'.os = w.os) (ht : w'.tape = w.tape) (hout : w'.output = w.output) (hdr : w'.drawn = w.drawn) (hsz : w'.heap.size = w.heap.size)
    (hb : w'.heap[b]? = some o') (hne : ∀ k, k ≠ b → w'.heap[k]? = w.heap[k]?) : Loc M w0 w' (cs.set i [(b, o')]) := by
  obtain ⟨hlt, hget⟩ := List.getElem?_eq_some_iff.1 hi
  have hcs : cs = cs.take i ++ [(b, o)] :: cs.drop (i + 1) := by
    rw [← hget, List.getElem_cons_drop, List.take_append_drop]
  have hcs' : cs.set i [(b, o')] = cs.take i ++ [(b, o')] :: cs.drop (i + 1) := by
    rw [List.set_eq_take_append_cons_drop, if_pos hlt]
  have hk : keys (cs.set i [(b, o')]) = keys cs := by
    rw [hcs']
    conv => rhs; rw [hcs]
    simp [keys]
  have hbk : b ∈ keys cs := by rw [hcs]; simp [keys]
  have hnd := h.nd
  rw [hcs] at hnd
  simp only [keys, List.flatten_append, List.flatten_cons, List.map_append, List.singleton_append, List.map_cons] at hnd
  have hb0 : b ∉ List.map (fun x => x.1) (cs.take i).flatten ∧ b ∉ List.map (fun x => x.1) (cs.drop (i + 1)).flatten := by
    rw [List.nodup_append] at hnd
    obtain ⟨_, h2, h3⟩ := hnd
    rw [List.nodup_cons] at h2
    exact ⟨fun hm => h3 b hm b (by simp) rfl, h2.1⟩
  refine ⟨hos.trans h.os, ht.trans h.tape, hout.trans h.output, by rw [hdr]; exact h.drawn, by rw [hsz]; exact h.size, fun k hk' hm => ?_, by rw [hk]; exact h.nd, by rw [hk]; exact h.own, ?_⟩
  · have hkb : k ≠ b := fun e => by
      subst e
      rcases h.own k hbk with h1 | h1
      · omega
      · exact hm h1
    rw [hne k hkb]
    exact h.old k hk' hm
  · intro p hp
    rw [hcs'] at hp
    simp only [List.flatten_append, List.flatten_cons, List.singleton_append, List.mem_append, List.mem_cons] at hp
    have hrest : ∀ q : Entry, q ∈ cs.flatten → q.1 ≠ b → w'.heap[q.1]? = some q.2 := fun q hq hqb => by rw [hne _ hqb]; exact h.has q hq
    rcases hp with hp | rfl | hp
    · refine hrest p ?_ (fun e => hb0.1 (e ▸ List.mem_map.2 ⟨p, hp, rfl⟩))
      rw [hcs]; simp [hp]
    · exact hb
    · refine hrest p ?_ (fun e => hb0.2 (e ▸ List.mem_map.2 ⟨p, hp, rfl⟩))
      rw [hcs]; simp [hp]

/-- Behind a call: it may have turned the chunks `ci` alone; what it hands back is `co`. -/
theorem Loc.call {M : List Nat} {w0 w w' : World} {ci cr co : List Chunk} (h : Loc M w0 w (ci ++ cr)) (hc : Loc (keys ci) w w' co) : Loc M w0 w' (co ++ cr) where
  os := hc.os.trans h.os
  tape := hc.tape.trans h.tape
  output := hc.output.trans h.output
  drawn := Nat.le_trans h.drawn hc.drawn
  size := Nat.le_trans h.size hc.size
  old := fun b hb hm => by
    have hb' : b ∉ keys ci := fun hk => by
      rcases h.own b (by simp only [keys, List.flatten_append, List.map_append, List.mem_append] at hk ⊢; exact .inl hk) with h1 | h1
      · omega
      · exact hm h1
    rw [hc.old b (Nat.lt_of_lt_of_le hb h.size) hb']
    exact h.old b hb hm
  nd := by
    have hnd := h.nd
    simp only [keys, List.flatten_append, List.map_append] at hnd ⊢
    rw [List.nodup_append] at hnd ⊢
    refine ⟨hc.nd, hnd.2.1, fun x hx y hy hxy => ?_⟩
    subst hxy
    have hylt : x < w.heap.size := h.lt (by simp only [keys, List.flatten_append, List.map_append, List.mem_append]; exact .inr hy)
    rcases hc.own x hx with h1 | h1
    · omega
    · exact hnd.2.2 x h1 x hy rfl
  own := fun b hb => by
    simp only [keys, List.flatten_append, List.map_append, List.mem_append] at hb
    rcases hb with hb | hb
    · rcases hc.own b hb with h1 | h1
      · exact .inl (Nat.le_trans h.size h1)
      · exact h.own b (by simp only [keys, List.flatten_append, List.map_append, List.mem_append] at h1 ⊢; exact .inl h1)
    · exact h.own b (by simp only [keys, List.flatten_append, List.map_append, List.mem_append]; exact .inr hb)
  has := fun p hp => by
    simp only [List.flatten_append, List.mem_append] at hp
    rcases hp with hp | hp
    · exact hc.has p hp
    · have hp' : p ∈ (ci ++ cr).flatten := by simp only [List.flatten_append, List.mem_append]; exact .inr hp
      have hlt := lt_of_heap (h.has p hp')
      have hnk : p.1 ∉ keys ci := fun hk => by
        have hnd := h.nd
        simp only [keys, List.flatten_append, List.map_append] at hnd
        rw [List.nodup_append] at hnd
        exact hnd.2.2 p.1 hk p.1 (List.mem_map.2 ⟨p, hp, rfl⟩) rfl
      rw [hc.old p.1 hlt hnk]
      exact h.has p hp'

theorem Loc.ext {M : List Nat} {w0 w w' : World} {cs : List Chunk} (h : Loc M w0 w cs) (hc : Ext w w') : Loc M w0 w' cs := Loc.call (ci := []) (co := []) h hc
theorem Loc.exts {M : List Nat} {w0 w w' : World} {cs co : List Chunk} (h : Loc M w0 w cs) (hc : Loc [] w w' co) : Loc M w0 w' (co ++ cs) := Loc.call (ci := []) (co := co) h hc
theorem Loc.to_ext {w0 w : World} {cs : List Chunk} (h : Loc [] w0 w cs) : Ext w0 w := h.drop

/-- What lay in an old block lies there still. -/
theorem Loc.kept {M : List Nat} {w0 w : World} {cs : List Chunk} (h : Loc M w0 w cs) {b : Nat} {o : Obj} (hb : w0.heap[b]? = some o) (hm : b ∉ M) : w.heap[b]? = some o := by
  rw [h.old b (lt_of_heap hb) hm]; exact hb

/-! ### Reading -/
def Rd (w : World) (b off : Nat) (cs : List Value) : Prop := ∃ c T fr, w.heap[b]? = some (.cells c T fr) ∧ ∀ i v, cs[i]? = some v → c[off + i]? = some v

theorem Rd.mk {w : World} {b off : Nat} {c : List Value} {T : TypeId} {fr : Nat × Nat} {cs : List Value} (h : w.heap[b]? = some (.cells c.toArray T fr)) (hs : (c.drop off).take cs.length = cs) : Rd w b off cs := by
  refine ⟨_, _, _, h, fun i v hv => ?_⟩
  have hlt : i < cs.length := (List.getElem?_eq_some_iff.1 hv).1
  rw [← hs] at hv
  rw [List.getElem?_take_of_lt hlt, List.getElem?_drop] at hv
  simpa using hv

theorem Loc.rd {M : List Nat} {w0 w : World} {cs : List Chunk} (h : Loc M w0 w cs) (i : Nat) {b : Nat} {c : List Value} {T : TypeId} (hi : cs[i]? = some [(b, ob c T)]) (off : Nat) {ds : List Value} (hs : (c.drop off).take ds.length = ds) : Rd w b off ds :=
  Rd.mk (h.has (b, ob c T) (List.mem_flatten.2 ⟨_, List.mem_of_getElem? hi, by simp⟩)) hs

theorem Rd.mono {w w' : World} {b off : Nat} {cs : List Value} (h : Rd w b off cs) (hb : ∀ o, w.heap[b]? = some o → w'.heap[b]? = some o) : Rd w' b off cs := by
  obtain ⟨c, T, fr, h1, h2⟩ := h
  exact ⟨c, T, fr, hb _ h1, h2⟩

theorem Rd.lt {w : World} {b off : Nat} {cs : List Value} (h : Rd w b off cs) : b < w.heap.size := by
  obtain ⟨c, T, fr, h1, h2⟩ := h
  exact lt_of_heap h1

theorem Rd.ext {w w' : World} {b off : Nat} {cs : List Value} (h : Rd w b off cs) (he : Ext w w') : Rd w' b off cs := h.mono fun _ ho => he.kept ho (by simp)
theorem Rd.loc {M : List Nat} {w w' : World} {b off : Nat} {cs : List Value} {ch : List Chunk} (h : Rd w b off cs) (he : Loc M w w' ch) (hm : b ∉ M) : Rd w' b off cs := h.mono fun _ ho => he.kept ho hm

theorem Rd.part {w : World} {b off : Nat} {cs : List Value} (h : Rd w b off cs) (k : Nat) {ds : List Value} (hs : (cs.drop k).take ds.length = ds) : Rd w b (off + k) ds := by
  obtain ⟨c, T, fr, h1, h2⟩ := h
  refine ⟨c, T, fr, h1, fun i v hv => ?_⟩
  have hlt : i < ds.length := (List.getElem?_eq_some_iff.1 hv).1
  rw [← hs] at hv
  rw [List.getElem?_take_of_lt hlt, List.getElem?_drop] at hv
  have := h2 (k + i) v hv
  rwa [← Nat.add_assoc] at this

theorem Rd.cell {w : World} {b off : Nat} {cs : List Value} (h : Rd w b off cs) {i : Nat} {v : Value} (hv : cs[i]? = some v) : w.cell? ⟨b, off + i, none⟩ = some v := by
  obtain ⟨c, T, fr, h1, h2⟩ := h
  simp [World.cell?, h1, h2 i v hv]


/-- Chunk number i is brought to the front. -/
theorem Loc.front {M : List Nat} {w0 w : World} {cs : List Chunk} (h : Loc M w0 w cs) (i : Nat) {c : Chunk} {rest : List Chunk} (hi : cs[i]? = some c) (hr : cs.eraseIdx i = rest) : Loc M w0 w (c :: rest) := by
  subst hr
  refine h.perm ?_
  obtain ⟨hlt, hget⟩ := List.getElem?_eq_some_iff.1 hi
  have h1 : cs = cs.take i ++ c :: cs.drop (i + 1) := by rw [← hget, List.getElem_cons_drop, List.take_append_drop]
  have h2 : cs.eraseIdx i = cs.take i ++ cs.drop (i + 1) := List.eraseIdx_eq_take_drop_succ ..
  rw [h2]
  conv => lhs; rw [h1]
  simp only [List.flatten_append, List.flatten_cons]
  rw [← List.append_assoc, ← List.append_assoc]
  exact List.Perm.append_right _ List.perm_append_comm

/-- Blocks that lie in the world when the call begins, and that it may turn. -/
theorem Loc.start {w : World} {cs : List Chunk} (hn : (keys cs).Nodup) (hh : ∀ p ∈ cs.flatten, w.heap[p.1]? = some p.2) : Loc (keys cs) w w cs :=
  ⟨rfl, rfl, rfl, Nat.le_refl _, Nat.le_refl _, fun _ _ _ => rfl, hn, fun _ hb => .inr hb, hh⟩
theorem Loc.start1 {w : World} {b : Nat} {o : Obj} (hh : w.heap[b]? = some o) : Loc [b] w w [[(b, o)]] :=
  Loc.start (cs := [[(b, o)]]) (by simp [keys]) (by simpa using hh)
theorem Loc.get {M : List Nat} {w0 w : World} {cs : List Chunk} (h : Loc M w0 w cs) (i : Nat) {b : Nat} {o : Obj} (hi : cs[i]? = some [(b, o)]) : w.heap[b]? = some o :=
  h.has (b, o) (List.mem_flatten.2 ⟨_, List.mem_of_getElem? hi, by simp⟩)
theorem Loc.fresh {w0 w : World} {cs : List Chunk} (h : Loc [] w0 w cs) (i : Nat) {b : Nat} {o : Obj} (hi : cs[i]? = some [(b, o)]) : w0.heap.size ≤ b := by
  have : b ∈ keys cs := List.mem_map.2 ⟨(b, o), List.mem_flatten.2 ⟨_, List.mem_of_getElem? hi, by simp⟩, rfl⟩
  rcases h.own b this with h1 | h1
  · exact h1
  · cases h1
end Go.Vg
