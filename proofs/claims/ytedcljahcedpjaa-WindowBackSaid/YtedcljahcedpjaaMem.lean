/- Memory: what may have turned; a block known whole; a slice that reads as a list of cells; a slice whose block is the holder's own; append, copy, clear. -/
import Derived.Test.YtedcljahcedpjaaPlan
namespace Go.Afx
open Go Go.RowKit

/-- Of the blocks that there were only those in S may have turned. -/
structure Only (S : Nat → Prop) (w w' : World) : Prop where
  os : w'.os = w.os
  tape : w'.tape = w.tape
  output : w'.output = w.output
  size : w.heap.size ≤ w'.heap.size
  block : ∀ k, k < w.heap.size → ¬ S k → w'.heap[k]? = w.heap[k]?

theorem Only.refl (S : Nat → Prop) (w : World) : Only S w w := ⟨rfl, rfl, rfl, Nat.le_refl _, fun _ _ _ => rfl⟩
theorem Only.trans {S S' : Nat → Prop} {a b c : World} (h : Only S a b) (k : Only S' b c) (hs : ∀ i, i < a.heap.size → S' i → S i) : Only S a c :=
  ⟨k.os.trans h.os, k.tape.trans h.tape, k.output.trans h.output, Nat.le_trans h.size k.size, fun i hi hn =>
    (k.block i (Nat.lt_of_lt_of_le hi h.size) fun h' => hn (hs i hi h')).trans (h.block i hi hn)⟩
theorem Only.mono {S S' : Nat → Prop} {w w' : World} (h : Only S w w') (hs : ∀ i, i < w.heap.size → S i → S' i) : Only S' w w' :=
  ⟨h.os, h.tape, h.output, h.size, fun i hi hn => h.block i hi fun h' => hn (hs i hi h')⟩
theorem Only.drew {S : Nat → Prop} {a w : World} (h : Only S a w) : Only S a w.drew := ⟨h.os, h.tape, h.output, h.size, h.block⟩
theorem Only.alloc {S : Nat → Prop} {a w : World} (h : Only S a w) (o : Obj) : Only S a (w.alloc o) :=
  h.trans (S' := fun _ => False) ⟨rfl, rfl, rfl, by simp, fun k hk _ => Below.heap_alloc _ _ _ hk⟩ fun _ _ h => h.elim
theorem Only.setCell {S : Nat → Prop} {a w : World} (h : Only S a w) {p : Addr} (hp : p.block < a.heap.size → S p.block) (u : Value) : Only S a (w.setCell p u) :=
  h.trans (S' := fun k => k = p.block) ⟨rfl, rfl, rfl, by simp [World.setCell], fun k _ hn => Below.heap_setCell _ _ _ _ hn⟩ fun i hi e => by subst e; exact hp hi
theorem Only.setRow {S : Nat → Prop} {a w : World} (h : Only S a w) {g : Nat} (hp : g < a.heap.size → S g) (cs : Array Value) : Only S a (w.setRow g cs) :=
  h.trans (S' := fun k => k = g) ⟨rfl, rfl, rfl, by simp [World.setRow], fun k _ hn => setRow_other _ _ _ _ hn⟩ fun i hi e => by subst e; exact hp hi
theorem Only.below {S : Nat → Prop} {w w' : World} (h : Only S w w') {B : Nat} (hB : B ≤ w.heap.size) (hs : ∀ i, S i → B ≤ i) : Below B w w' :=
  ⟨h.os, h.tape, h.output, h.size, fun k hk => h.block k (Nat.lt_of_lt_of_le hk hB) fun h' => by have := hs k h'; omega⟩
theorem Only.of_below {S : Nat → Prop} {w w' : World} {B : Nat} (h : Below B w w') (hs : ∀ i, i < w.heap.size → ¬ S i → i < B) : Only S w w' :=
  ⟨h.os, h.tape, h.output, h.size, fun k hk hn => h.block k (hs k hk hn)⟩
theorem Only.of_none {S : Nat → Prop} {w w' : World} (h : Below w.heap.size w w') : Only S w w' := Only.of_below h fun _ hi _ => hi
theorem Only.cell {S : Nat → Prop} {w w' : World} (h : Only S w w') {p : Addr} (hp : p.block < w.heap.size) (hn : ¬ S p.block) : w'.cell? p = w.cell? p := World.cell?_of_block (w := w) (h.block p.block hp hn)
theorem Only.frozen {S : Nat → Prop} {w w' : World} (h : Only S w w') {p : Addr} (hp : p.block < w.heap.size) (hn : ¬ S p.block) : w'.frozen? p = w.frozen? p := World.frozen?_of_block (w := w) (h.block p.block hp hn)

theorem lt_of_heap {w : World} {k : Nat} {o : Obj} (h : w.heap[k]? = some o) : k < w.heap.size := (Array.getElem?_eq_some_iff.1 h).1

/-- Block b holds these cells, none of them shut. -/
def Blk (w : World) (b : Nat) (t : TypeId) (cs : List Value) : Prop := w.heap[b]? = some (.cells cs.toArray t (0, 0))

section blk
variable {w w' : World} {b : Nat} {t : TypeId} {cs : List Value}
theorem Blk.lt (h : Blk w b t cs) : b < w.heap.size := lt_of_heap h
theorem Blk.cell (h : Blk w b t cs) (i : Nat) : w.cell? ⟨b, i, none⟩ = cs[i]? := by
  unfold Blk at h
  simp [World.cell?, h]
theorem Blk.cellE (h : Blk w b t cs) (i : Nat) {v : Value} (hv : cs[i]? = some v) : w.cell? ⟨b, i, none⟩ = some v := (h.cell i).trans hv
theorem Blk.frozen (h : Blk w b t cs) (i : Nat) : w.frozen? ⟨b, i, none⟩ = false := by
  unfold Blk at h
  simp [World.frozen?, h]
theorem Blk.set (h : Blk w b t cs) (i : Nat) (v : Value) : Blk (w.setCell ⟨b, i, none⟩ v) b t (cs.set i v) := by
  have hlt := h.lt
  unfold Blk at *
  have hv : w.heap[b] = .cells cs.toArray t (0, 0) := (Array.getElem?_eq_some_iff.1 h).2
  simp only [World.setCell]
  rw [Array.getElem?_eq_getElem (by simpa using hlt), Array.getElem_modify]
  simp [hv]
theorem Blk.setOther (h : Blk w b t cs) {p : Addr} (hp : b ≠ p.block) (v : Value) : Blk (w.setCell p v) b t cs := by
  unfold Blk at *
  rw [Below.heap_setCell _ _ _ _ hp]
  exact h
theorem Blk.setRowOther (h : Blk w b t cs) {g : Nat} (hp : b ≠ g) (c : Array Value) : Blk (w.setRow g c) b t cs := by
  unfold Blk at *
  rw [setRow_other _ _ _ _ hp]
  exact h
theorem Blk.setRow (h : Blk w b t cs) (c : List Value) : Blk (w.setRow b c.toArray) b t c := setRow_heap w b _ _ t _ h
theorem Blk.alloc (h : Blk w b t cs) (o : Obj) : Blk (w.alloc o) b t cs := by
  have hlt := h.lt
  unfold Blk at *
  rw [heap_alloc_old w o hlt]
  exact h
theorem Blk.drew (h : Blk w b t cs) : Blk w.drew b t cs := h
theorem Blk.new (w : World) (t : TypeId) (cs : List Value) : Blk (w.alloc (.cells cs.toArray t)) w.heap.size t cs := heap_alloc_new w _
theorem Blk.only {S : Nat → Prop} (h : Blk w b t cs) (ho : Only S w w') (hn : ¬ S b) : Blk w' b t cs := by
  have hlt := h.lt
  unfold Blk at *
  rw [ho.block b hlt hn]
  exact h
theorem Blk.below (h : Blk w b t cs) (ho : Below w.heap.size w w') : Blk w' b t cs := by
  have hlt := h.lt
  unfold Blk at *
  rw [ho.block b hlt]
  exact h
end blk

/-- Values that fill one cell each. -/
def Ones (cs : List Value) : Prop := ∀ u ∈ cs, u.oneCell' = true
theorem Ones.nil : Ones [] := fun _ h => by cases h
theorem Ones.cons {u : Value} {cs : List Value} (h : u.oneCell' = true) (hc : Ones cs) : Ones (u :: cs) := fun x hx => by
  rcases List.mem_cons.1 hx with rfl | hx
  · exact h
  · exact hc x hx
theorem Ones.append {a b : List Value} (ha : Ones a) (hb : Ones b) : Ones (a ++ b) := fun x hx => by
  rcases List.mem_append.1 hx with h | h
  · exact ha x h
  · exact hb x h
theorem Ones.sub {a b : List Value} (hb : Ones b) (h : ∀ x ∈ a, x ∈ b) : Ones a := fun x hx => hb x (h x hx)
theorem Ones.take {a : List Value} (h : Ones a) (n : Nat) : Ones (a.take n) := h.sub fun _ hx => List.mem_of_mem_take hx
theorem Ones.drop {a : List Value} (h : Ones a) (n : Nat) : Ones (a.drop n) := h.sub fun _ hx => List.mem_of_mem_drop hx

/-- A slice of n elements, sz cells each, that reads as these cells; they lie in a block of B. -/
def Sl (w : World) (B : Nat → Prop) (sz : Nat) (v : Value) (n : Nat) (cs : List Value) : Prop :=
  cs.length = n * sz ∧ Ones cs ∧ ((∃ p cap, v = .slice p 0 cap ∧ n = 0 ∧ cap ≤ maxLen ∧ (p = none → cap = 0)) ∨
    ∃ g off cap, v = .slice (some ⟨g, off, none⟩) n cap ∧ n ≤ cap ∧ cap ≤ maxLen ∧ B g ∧ g < w.heap.size ∧ ∀ j, j < cs.length → w.cell? ⟨g, off + j, none⟩ = cs[j]?)

theorem Sl.mono {w w' : World} {B B' : Nat → Prop} {sz : Nat} {v : Value} {n : Nat} {cs : List Value} (h : Sl w B sz v n cs) (hs : w.heap.size ≤ w'.heap.size)
    (hb : ∀ k, B k → k < w.heap.size → w'.heap[k]? = w.heap[k]?) (hB : ∀ k, B k → k < w.heap.size → B' k) : Sl w' B' sz v n cs := by
  obtain ⟨h1, h2, h3⟩ := h
  refine ⟨h1, h2, ?_⟩
  rcases h3 with h3 | ⟨g, off, cap, rfl, a1, a2, a3, a4, a5⟩
  · exact .inl h3
  · exact .inr ⟨g, off, cap, rfl, a1, a2, hB g a3 a4, by omega, fun j hj => by rw [World.cell?_of_block (w := w) (hb g a3 a4)]; exact a5 j hj⟩
theorem Sl.only {w w' : World} {S B : Nat → Prop} {sz : Nat} {v : Value} {n : Nat} {cs : List Value} (h : Sl w B sz v n cs) (ho : Only S w w') (hd : ∀ k, B k → ¬ S k) : Sl w' B sz v n cs :=
  h.mono ho.size (fun k hk hl => ho.block k hl (hd k hk)) (fun _ h _ => h)
theorem Sl.below {w w' : World} {B : Nat → Prop} {sz : Nat} {v : Value} {n : Nat} {cs : List Value} (h : Sl w B sz v n cs) (ho : Below w.heap.size w w') : Sl w' B sz v n cs :=
  h.mono ho.size (fun k _ hl => ho.block k hl) (fun _ h _ => h)
theorem Sl.drew {w : World} {B : Nat → Prop} {sz : Nat} {v : Value} {n : Nat} {cs : List Value} (h : Sl w B sz v n cs) : Sl w.drew B sz v n cs := h
theorem Sl.alloc {w : World} {B : Nat → Prop} {sz : Nat} {v : Value} {n : Nat} {cs : List Value} (h : Sl w B sz v n cs) (o : Obj) : Sl (w.alloc o) B sz v n cs :=
  h.mono (by simp) (fun _ _ hl => heap_alloc_old w o hl) (fun _ h _ => h)
/-- A cut of a slice: the first m elements. -/
theorem Sl.take {w : World} {B : Nat → Prop} {sz n cap m : Nat} {p : Option Addr} {cs : List Value} (h : Sl w B sz (.slice p n cap) n cs) (hm : m ≤ n) : Sl w B sz (.slice p m cap) m (cs.take (m * sz)) := by
  obtain ⟨h1, h2, h3⟩ := h
  have hmn : m * sz ≤ n * sz := Nat.mul_le_mul_right _ hm
  refine ⟨by rw [List.length_take, h1]; omega, h2.take _, ?_⟩
  rcases h3 with ⟨p', cap', hv, hn, hc, hp⟩ | ⟨g', off', cap', hv, a1, a2, a3, a4, a5⟩
  · cases hv
    have : m = 0 := by omega
    subst this
    exact .inl ⟨p, cap, rfl, rfl, hc, hp⟩
  · cases hv
    refine .inr ⟨g', off', cap, rfl, by omega, a2, a3, a4, fun j hj => ?_⟩
    rw [List.length_take] at hj
    rw [a5 j (by omega), List.getElem?_take, if_pos (by omega)]
theorem Sl.form {w : World} {B : Nat → Prop} {sz : Nat} {v : Value} {n : Nat} {cs : List Value} (h : Sl w B sz v n cs) : ∃ p cap, v = .slice p n cap ∧ n ≤ cap ∧ cap ≤ 9223372036854775807 := by
  rcases h.2.2 with ⟨p, cap, rfl, rfl, hc, _⟩ | ⟨g, off, cap, rfl, a1, a2, _⟩
  · exact ⟨p, cap, rfl, by omega, by unfold maxLen at hc; omega⟩
  · exact ⟨_, cap, rfl, a1, by unfold maxLen at a2; omega⟩
/-- Where there is an element, there is a place. -/
theorem Sl.place {w : World} {B : Nat → Prop} {sz : Nat} {v : Value} {n : Nat} {cs : List Value} (h : Sl w B sz v n cs) (hn : 0 < n) :
    ∃ g off cap, v = .slice (some ⟨g, off, none⟩) n cap ∧ n ≤ cap ∧ cap ≤ maxLen ∧ B g ∧ g < w.heap.size ∧ ∀ j, j < cs.length → w.cell? ⟨g, off + j, none⟩ = cs[j]? := by
  rcases h.2.2 with ⟨p, cap, rfl, rfl, hc, _⟩ | h
  · omega
  · exact h

/-- A slice whose block is its holder's own. -/
def Own (w : World) (e : TypeId) (sz : Nat) (v : Value) (n : Nat) (cs : List Value) : Prop :=
  cs.length = n * sz ∧ Ones cs ∧ ((v = .slice none 0 0 ∧ n = 0) ∨
    ∃ g off cap cur, v = .slice (some ⟨g, off, none⟩) n cap ∧ Blk w g e cur ∧ n ≤ cap ∧ cap ≤ maxLen ∧ off + cap * sz ≤ cur.length ∧ (cur.drop off).take (n * sz) = cs)

section own
variable {w w' : World} {e : TypeId} {sz : Nat} {v : Value} {n : Nat} {cs : List Value}
theorem Own.nil (w : World) (e : TypeId) (sz : Nat) : Own w e sz (.slice none 0 0) 0 [] := ⟨by simp, Ones.nil, .inl ⟨rfl, rfl⟩⟩
theorem Own.lt (h : Own w e sz v n cs) : ∀ k, v.ownBlock = some k → k < w.heap.size := by
  intro k hk
  rcases h.2.2 with ⟨rfl, _⟩ | ⟨g, off, cap, cur, rfl, hb, _⟩
  · simp [Value.ownBlock] at hk
  · simp [Value.ownBlock] at hk
    subst hk
    exact hb.lt
theorem Own.sl (h : Own w e sz v n cs) {B : Nat → Prop} (hB : ∀ k, v.ownBlock = some k → B k) : Sl w B sz v n cs := by
  refine ⟨h.1, h.2.1, ?_⟩
  rcases h.2.2 with h0 | ⟨g, off, cap, cur, rfl, hb, h1, h2, h3, h4⟩
  · exact .inl ⟨none, 0, h0.1, h0.2, Nat.zero_le _, fun _ => rfl⟩
  · refine .inr ⟨g, off, cap, rfl, h1, h2, hB g rfl, hb.lt, fun j hj => ?_⟩
    rw [hb.cell, ← h4, List.getElem?_take, List.getElem?_drop, if_pos (by rw [h.1] at hj; exact hj)]
theorem Own.keep (h : Own w e sz v n cs) (hb : ∀ k, v.ownBlock = some k → w'.heap[k]? = w.heap[k]?) : Own w' e sz v n cs := by
  refine ⟨h.1, h.2.1, ?_⟩
  rcases h.2.2 with h0 | ⟨g, off, cap, cur, rfl, hbk, rest⟩
  · exact .inl h0
  · refine .inr ⟨g, off, cap, cur, rfl, ?_, rest⟩
    unfold Blk at *
    rw [hb g rfl]
    exact hbk
theorem Own.only {S : Nat → Prop} (h : Own w e sz v n cs) (ho : Only S w w') (hd : ∀ k, v.ownBlock = some k → ¬ S k) : Own w' e sz v n cs :=
  h.keep fun k hk => ho.block k (h.lt k hk) (hd k hk)
theorem Own.below (h : Own w e sz v n cs) (ho : Below w.heap.size w w') : Own w' e sz v n cs := h.keep fun k hk => ho.block k (h.lt k hk)
theorem Own.drew (h : Own w e sz v n cs) : Own w.drew e sz v n cs := h
theorem Own.alloc (h : Own w e sz v n cs) (o : Obj) : Own (w.alloc o) e sz v n cs := h.keep fun k hk => heap_alloc_old w o (h.lt k hk)
theorem Own.setOther (h : Own w e sz v n cs) {p : Addr} (hp : v.ownBlock ≠ some p.block) (u : Value) : Own (w.setCell p u) e sz v n cs :=
  h.keep fun k hk => Below.heap_setCell _ _ _ _ fun he => hp (by rw [hk, he])
/-- A new row, whole. -/
theorem Own.made (w : World) (e : TypeId) (sz : Nat) (cs rest : List Value) (n cap : Nat) (hl : cs.length = n * sz) (h1 : Ones cs) (hc : n ≤ cap) (hm : cap ≤ maxLen) (hr : cap * sz ≤ (cs ++ rest).length) :
    Own (w.alloc (.cells (cs ++ rest).toArray e)) e sz (.slice (some ⟨w.heap.size, 0, none⟩) n cap) n cs :=
  ⟨hl, h1, .inr ⟨w.heap.size, 0, cap, cs ++ rest, rfl, Blk.new w e _, hc, hm, by omega, by rw [← hl]; simp⟩⟩
/-- Cut at the back. -/
theorem Own.take {g off cap : Nat} (h : Own w e sz (.slice (some ⟨g, off, none⟩) n cap) n cs) {m : Nat} (hm : m ≤ n) : Own w e sz (.slice (some ⟨g, off, none⟩) m cap) m (cs.take (m * sz)) := by
  have hmn : m * sz ≤ n * sz := Nat.mul_le_mul_right _ hm
  refine ⟨by rw [List.length_take, h.1]; omega, h.2.1.take _, ?_⟩
  rcases h.2.2 with ⟨h0, _⟩ | ⟨g', off', cap', cur, hv, hb, h1, h2, h3, h4⟩
  · cases h0
  · cases hv
    refine .inr ⟨g, off, cap, cur, rfl, hb, by omega, h2, h3, ?_⟩
    rw [← h4, List.take_take]
    congr 1
    omega
end own

/-- What is to be known of a slice's element type. -/
structure Elem (P : Program) (t e : TypeId) (sz bytes : Nat) (z : Value) : Prop where
  sl : P.underlying t = some (.slice e)
  info : (P.info? e).map (fun i => (i.zero, i.size, i.bytes)) = some (some z, sz, bytes)
  zs : z.cells.size = sz
  pos : 0 < sz
  one : Ones z.cells.toList

theorem Elem.parts {P : Program} {t e : TypeId} {sz bytes : Nat} {z : Value} (h : Elem P t e sz bytes z) : ∃ i, P.info? e = some i ∧ i.zero = some z ∧ i.size = sz ∧ i.bytes = bytes := info_parts h.info

theorem splice_read (cur news cs : List Value) (off a : Nat) (ho : off ≤ cur.length) (h : (cur.drop off).take a = cs) (hl : cs.length = a) :
    ((cur.take (off + a) ++ news ++ cur.drop (off + a + news.length)).drop off).take (a + news.length) = cs ++ news := by
  have e1 : cur.take (off + a) = cur.take off ++ cs := by rw [List.take_add, h]
  rw [e1, List.append_assoc, List.append_assoc, List.drop_append_of_le_length (by rw [List.length_take]; omega)]
  rw [List.drop_eq_nil_of_le (by rw [List.length_take]; omega), List.nil_append, ← List.append_assoc, ← hl, ← List.length_append, List.take_left]

theorem news_of_sl {w : World} {g off : Nat} {news : List Value} (h : ∀ j, j < news.length → w.cell? ⟨g, off + j, none⟩ = news[j]?) : ∀ j u, news[j]? = some u → w.cell? ((⟨g, off, none⟩ : Addr).add j) = some u := fun j u hu => by
  have hj : j < news.length := (List.getElem?_eq_some_iff.1 hu).1
  rw [Addr.add_lit, h j hj, hu]

section append
variable {P : Program} {t e ty : TypeId} {sz bytes : Nat} {z : Value} {w : World}

/-- append onto a slice of one's own, of whatever else reads. -/
theorem run_app (he : Elem P t e sz bytes z) {v : Value} {n : Nat} {cs : List Value} (hown : Own w e sz v n cs) {B : Nat → Prop} {x : Value} {m : Nat} {news : List Value} (hx : Sl w B sz x m news)
    (h63 : n + m ≤ maxLen) (hb : (n + m) * bytes ≤ 140737488355328) :
    ∃ v' w', (Builtin.append_ #[t, t] ty #[v, x]).run P w = .ok v' w' ∧ Own w' e sz v' (n + m) (cs ++ news) ∧ Only (fun k => v.ownBlock = some k) w w' ∧
      (v'.ownBlock = v.ownBlock ∨ v'.ownBlock = some w.heap.size) ∧ w'.heap.size ≤ w.heap.size + 1 ∧ (0 < n + m → v' ≠ .slice none 0 0) ∧ (0 < n + m → v'.ownBlock ≠ none) := by
  obtain ⟨i, hi, hz, hsize, hby⟩ := he.parts
  have ht := he.sl
  have hzs := he.zs
  have hsz := he.pos
  subst hsize
  subst hby
  have hsmall : n + m ≤ 9223372036854775807 := by simp only [maxLen] at h63; omega
  have hlen : (cs ++ news).length = (n + m) * i.size := by rw [List.length_append, hown.1, hx.1, Nat.add_mul]
  have hones : Ones (cs ++ news) := hown.2.1.append hx.2.1
  -- a new row
  have grown : ∀ (old : Nat), old < n + m → ∀ S : Nat → Prop,
      Own (w.drew.alloc (.cells (cs.toArray ++ news.toArray ++ Builtin.zeroCells z.cells (grownCap w (n + m) old e - (n + m))) e)) e i.size
        (.slice (some ⟨w.heap.size, 0, none⟩) (n + m) (grownCap w (n + m) old e)) (n + m) (cs ++ news) ∧
      Only S w (w.drew.alloc (.cells (cs.toArray ++ news.toArray ++ Builtin.zeroCells z.cells (grownCap w (n + m) old e - (n + m))) e)) := by
    intro old ho S
    have hge := grownCap_ge w (n + m) old e
    have hcm : grownCap w (n + m) old e ≤ maxLen := grownCap_le_maxLen w (n + m) old e h63
    have hsz2 : (cs ++ news ++ (Builtin.zeroCells z.cells (grownCap w (n + m) old e - (n + m))).toList).length = grownCap w (n + m) old e * i.size := by
      rw [List.length_append, hlen, Array.length_toList, size_zeroCells, hzs, ← Nat.add_mul]
      congr 1
      omega
    have h1 := Own.made w.drew e i.size (cs ++ news) (Builtin.zeroCells z.cells (grownCap w (n + m) old e - (n + m))).toList (n + m) (grownCap w (n + m) old e) hlen hones hge hcm (by omega)
    have e1 : (cs ++ news ++ (Builtin.zeroCells z.cells (grownCap w (n + m) old e - (n + m))).toList).toArray = cs.toArray ++ news.toArray ++ Builtin.zeroCells z.cells (grownCap w (n + m) old e - (n + m)) := by simp
    rw [e1] at h1
    exact ⟨h1, ((Only.refl S w).drew).alloc _⟩
  rcases hown.2.2 with ⟨rfl, rfl⟩ | ⟨g, off, cap, cur, rfl, hbk, hnc, hcm, hcs, htake⟩
  · -- onto nil
    have hc0 : cs = [] := List.eq_nil_of_length_eq_zero (by simpa using hown.1)
    subst hc0
    rcases hx.2.2 with ⟨p, cap, rfl, rfl, _, _⟩ | ⟨g, off, cap, rfl, _, _, _, _, hcell⟩
    · have hn0 : news = [] := List.eq_nil_of_length_eq_zero (by simpa using hx.1)
      subst hn0
      refine ⟨.slice none 0 0, w, ?_, Own.nil w e i.size, Only.refl _ w, .inl rfl, by omega, by omega, by omega⟩
      cases p <;> simp [Builtin.append_, run_underlying ht, sizeOf, typeInfo, hi, Builtin.lenOf, Builtin.firstCells, loadCells, loadCellsFrom]
    · by_cases hm : m = 0
      · subst hm
        have hn0 : news = [] := List.eq_nil_of_length_eq_zero (by simpa using hx.1)
        subst hn0
        refine ⟨.slice none 0 0, w, ?_, Own.nil w e i.size, Only.refl _ w, .inl rfl, by omega, by omega, by omega⟩
        simp [Builtin.append_, run_underlying ht, sizeOf, typeInfo, hi, Builtin.lenOf, Builtin.firstCells, loadCells, loadCellsFrom]
      · have hr := run_append_nil (P := P) w t ty e i z ht hi hz ⟨g, off, none⟩ m cap news hx.1 (news_of_sl hcell) (by omega) (by omega) (by have := hb; simp only [Nat.zero_add] at this; omega)
        obtain ⟨g1, g2⟩ := grown 0 (by omega) (fun k => (Value.slice none 0 0).ownBlock = some k)
        simp only [Nat.zero_add, List.nil_append, Array.empty_append] at g1 g2 ⊢
        refine ⟨_, _, hr, g1, g2, .inr rfl, by simp, by simp, by simp [Value.ownBlock]⟩
  · have hxr : (Builtin.firstCells i.size m x).run P w = .ok news.toArray w ∧ (Builtin.lenOf x).run P w = .ok m w := by
      rcases hx.2.2 with ⟨p, cap, rfl, rfl, _, _⟩ | ⟨g', off', cap', rfl, _, _, _, _, hcell⟩
      · have hn0 : news = [] := List.eq_nil_of_length_eq_zero (by simpa using hx.1)
        subst hn0
        exact ⟨by cases p <;> simp [Builtin.firstCells, loadCells, loadCellsFrom], by simp [Builtin.lenOf]⟩
      · exact ⟨run_firstCells_some w i.size m ⟨g', off', none⟩ m cap' news hx.1 (news_of_sl hcell), by simp [Builtin.lenOf]⟩
    by_cases hroom : n + m ≤ cap
    · have hfit : (off + n * i.size) + 0 + news.length ≤ cur.toArray.size := by
        have : (n + m) * i.size ≤ cap * i.size := Nat.mul_le_mul_right _ hroom
        rw [Nat.add_mul] at this
        simp only [List.size_toArray, hx.1]
        omega
      have hst := run_storeCells_at P g (off + n * i.size) e news 0 cur.toArray w hbk hfit hx.2.1
      simp only [Nat.add_zero] at hst
      have hr : (Builtin.append_ #[t, t] ty #[.slice (some ⟨g, off, none⟩) n cap, x]).run P w = .ok (.slice (some ⟨g, off, none⟩) (n + m) cap) (w.setRow g (cur.take (off + n * i.size) ++ news ++ cur.drop (off + n * i.size + news.length)).toArray) := by
        rcases hx.2.2 with ⟨p, cap, rfl, rfl, _, _⟩ | ⟨g', off', cap', rfl, _, _, _, _, hcell⟩
        · simp [Builtin.append_, run_underlying ht, sizeOf, typeInfo, hi, hnc, hxr.1, hxr.2, Addr.add_lit, hst]
        · simp [Builtin.append_, run_underlying ht, sizeOf, typeInfo, hi, hroom, hxr.1, hxr.2, Addr.add_lit, hst]
      refine ⟨_, _, hr, ⟨hlen, hones, .inr ⟨g, off, cap, _, rfl, hbk.setRow _, hroom, hcm, ?_, ?_⟩⟩, (Only.refl _ w).setRow (fun _ => by simp [Value.ownBlock]) _, .inl rfl, by simp [World.setRow], by simp, by simp [Value.ownBlock]⟩
      · have : (n + m) * i.size ≤ cap * i.size := Nat.mul_le_mul_right _ hroom
        rw [Nat.add_mul] at this
        simp only [List.length_append, List.length_take, List.length_drop, hx.1]
        omega
      · have h3 : (n + m) * i.size ≤ cap * i.size := Nat.mul_le_mul_right _ hroom
        rw [Nat.add_mul] at h3
        have h4 := splice_read cur news cs off (n * i.size) (by omega) htake hown.1
        rw [Nat.add_mul, ← hx.1]
        exact h4
    · rcases hx.2.2 with ⟨p, cap, rfl, rfl, _, _⟩ | ⟨g', off', cap', rfl, _, _, _, _, hcell⟩
      · omega
      · have holds : ∀ j u, cs[j]? = some u → w.cell? ((⟨g, off, none⟩ : Addr).add j) = some u := by
          have hs := hown.sl (B := fun _ => True) (fun _ _ => trivial)
          rcases hs.2.2 with ⟨_, _, _, h0, _⟩ | ⟨g2, off2, cap2, hv, _, _, _, _, h5⟩
          · have : cs = [] := List.eq_nil_of_length_eq_zero (by rw [hown.1, h0, Nat.zero_mul])
            intro j u hu
            simp [this] at hu
          · cases hv
            exact news_of_sl h5
        have hr := run_append_grow (P := P) w t ty e i z ht hi hz ⟨g, off, none⟩ n cap cs hown.1 holds ⟨g', off', none⟩ m cap' news hx.1 (news_of_sl hcell) (by omega) (by omega) (growslice_fits (by omega) hb)
        obtain ⟨g1, g2⟩ := grown cap (by omega) (fun k => (Value.slice (some ⟨g, off, none⟩) n cap).ownBlock = some k)
        refine ⟨_, _, hr, g1, g2, .inr rfl, by simp, by simp, by simp [Value.ownBlock]⟩
end append
end Go.Afx
