/- How an argument that is a slice of whatever elements reads, as cells. -/
import Derived.Test.YtedcljahcedpjaaMemB
import Derived.ProofKit
import Derived.ChangeOld
namespace Go.Afx
open Go Go.RowKit

theorem flatten_get {α : Type} {sz : Nat} : ∀ (es : List (List α)), (∀ c ∈ es, c.length = sz) → ∀ i r, r < sz → es.flatten[i * sz + r]? = (es[i]?).bind (·[r]?)
  | [], _, i, r, _ => by simp
  | c :: es, h, i, r, hr => by
    have hc := h c (by simp)
    cases i with
    | zero =>
      simp only [List.flatten_cons, Nat.zero_mul, Nat.zero_add, List.getElem?_cons_zero, Option.bind_some]
      rw [List.getElem?_append_left (by omega)]
    | succ i =>
      simp only [List.flatten_cons, List.getElem?_cons_succ]
      rw [List.getElem?_append_right (by rw [hc, Nat.succ_mul]; omega)]
      have : (i + 1) * sz + r - c.length = i * sz + r := by rw [hc, Nat.succ_mul]; omega
      rw [this]
      exact flatten_get es (fun c hc => h c (by simp [hc])) i r hr

theorem flatten_length {α : Type} {sz : Nat} : ∀ (es : List (List α)), (∀ c ∈ es, c.length = sz) → es.flatten.length = es.length * sz
  | [], _ => by simp
  | c :: es, h => by
    have hc := h c (by simp)
    rw [List.flatten_cons, List.length_append, flatten_length es (fun c hc => h c (by simp [hc])), hc, List.length_cons, Nat.succ_mul]
    omega

theorem choose_list {α β : Type} {f : β → α} {R : β → Prop} : ∀ (es : List α), (∀ c ∈ es, ∃ b, c = f b ∧ R b) → ∃ bs : List β, es = bs.map f ∧ ∀ b ∈ bs, R b
  | [], _ => ⟨[], rfl, by simp⟩
  | c :: es, h => by
    obtain ⟨b, hb, hr⟩ := h c (by simp)
    obtain ⟨bs, h1, h2⟩ := choose_list es (fun c hc => h c (by simp [hc]))
    exact ⟨b :: bs, by simp [hb, h1], by simpa using ⟨hr, h2⟩⟩

theorem list1 {α : Type} {l : List α} (h : l.length = 1) : ∃ a0, l = [a0] := by
  match l, h with
  | [a0], _ => exact ⟨a0, rfl⟩
theorem list2 {α : Type} {l : List α} (h : l.length = 2) : ∃ a0 a1, l = [a0, a1] := by
  match l, h with
  | [a0, a1], _ => exact ⟨a0, a1, rfl⟩
theorem list3 {α : Type} {l : List α} (h : l.length = 3) : ∃ a0 a1 a2, l = [a0, a1, a2] := by
  match l, h with
  | [a0, a1, a2], _ => exact ⟨a0, a1, a2, rfl⟩
theorem list4 {α : Type} {l : List α} (h : l.length = 4) : ∃ a0 a1 a2 a3, l = [a0, a1, a2, a3] := by
  match l, h with
  | [a0, a1, a2, a3], _ => exact ⟨a0, a1, a2, a3, rfl⟩
theorem list5 {α : Type} {l : List α} (h : l.length = 5) : ∃ a0 a1 a2 a3 a4, l = [a0, a1, a2, a3, a4] := by
  match l, h with
  | [a0, a1, a2, a3, a4], _ => exact ⟨a0, a1, a2, a3, a4, rfl⟩
theorem list6 {α : Type} {l : List α} (h : l.length = 6) : ∃ a0 a1 a2 a3 a4 a5, l = [a0, a1, a2, a3, a4, a5] := by
  match l, h with
  | [a0, a1, a2, a3, a4, a5], _ => exact ⟨a0, a1, a2, a3, a4, a5, rfl⟩

theorem Addr.add_add (a : Addr) (i j : Nat) (hs : a.spot = none) : (a.add i).add j = ⟨a.block, a.off + i + j, none⟩ := by
  obtain ⟨b, o, s⟩ := a
  simp only at hs
  subst hs
  rw [Addr.add_lit, Addr.add_lit]

section
variable {H : Type} {enc : TypeId × Value → H} {P : Program} {w : World}

theorem open_sl {t e : TypeId} {sz fuel : Nat} {v : Value} {x : DataW H × List MemPlace} (ht : P.underlying t = some (.slice e)) (hc : P.cellsOf e = sz) (hsz : 0 < sz)
    (h : DataW.trod enc P w 0 (fun _ => true) true fuel t [v] = some x) (El : List Value → Prop) (hone : ∀ c, El c → Ones c)
    (hel : ∀ f c y, c.length = sz → DataW.trod enc P w 0 (fun _ => true) true f e c = some y → El c) :
    ∃ es : List (List Value), (∀ c ∈ es, c.length = sz ∧ El c) ∧ Sl w (fun _ => True) sz v es.length es.flatten := by
  rcases DataW.trod_slice ht h with ⟨h1, _⟩ | ⟨a, len, cap, elems, rest, n, rfl, h1, _, _, hl, hm, hlen, hel2, _, _⟩
  · obtain rfl : v = .slice none 0 0 := by simpa using h1
    exact ⟨[], by simp, by simp, Ones.nil, .inl ⟨none, 0, rfl, rfl, Nat.zero_le _, fun _ => rfl⟩⟩
  · obtain rfl : v = .slice (some a) len cap := by simpa using h1
    have hget : ∀ i, i < len → ∃ c y, w.cells? 0 (a.add (i * sz)) sz = some c ∧ DataW.trod enc P w 0 (fun _ => true) true n e c = some y := fun i hi => by
      have h2 := hel2 i hi
      rw [hc, List.getElem?_eq_getElem (by omega)] at h2
      obtain ⟨c, h3, h4⟩ := Option.bind_eq_some_iff.1 h2
      exact ⟨c, _, h3, h4⟩
    have hes : ∀ c ∈ (List.range len).map (fun i => (w.cells? 0 (a.add (i * sz)) sz).getD []), c.length = sz ∧ El c := by
      intro c hcm
      obtain ⟨i, hi, rfl⟩ := List.mem_map.1 hcm
      obtain ⟨c, y, h3, h4⟩ := hget i (by simpa using hi)
      rw [h3]
      have h5 := (World.cells?_some h3).2.1
      exact ⟨h5, hel _ _ _ h5 h4⟩
    refine ⟨_, hes, ?_⟩
    have hlen2 := flatten_length _ (fun c hcm => (hes c hcm).1)
    refine ⟨hlen2, fun u hu => ?_, ?_⟩
    · obtain ⟨c, hcm, huc⟩ := List.mem_flatten.1 hu
      exact hone c (hes c hcm).2 u huc
    · simp only [List.length_map, List.length_range] at hlen2 ⊢
      rcases Nat.eq_zero_or_pos len with h0 | hpos
      · subst h0
        exact .inl ⟨some a, cap, rfl, rfl, hm, by simp⟩
      · obtain ⟨c0, y0, h3, _⟩ := hget 0 hpos
        obtain ⟨_, h5, h6⟩ := World.cells?_some h3
        have h7 := h6 0 hsz
        have h8 : (w.cell? a).isSome = true := by
          have : (a.add (0 * sz)).add 0 = a := by simp [Addr.add]
          rw [this] at h7
          rw [h7, List.getElem?_eq_getElem (by omega)]
          rfl
        have hspot : a.spot = none := by
          unfold World.cell? at h8
          split at h8
          · by_cases hs : a.spot.isSome = true
            · simp [hs] at h8
            · simpa using hs
          · simp at h8
        have hblk : a.block < w.heap.size := by
          obtain ⟨u, hu⟩ := Option.isSome_iff_exists.1 h8
          exact World.block_lt_of_cell? w a hu
        obtain ⟨b, o, s⟩ := a
        simp only at hspot hblk
        subst hspot
        refine .inr ⟨b, o, cap, rfl, hl, hm, trivial, hblk, fun j hj => ?_⟩
        have hj2 : j < len * sz := by rw [← hlen2]; exact hj
        have hi : j / sz < len := Nat.div_lt_of_lt_mul (by rw [Nat.mul_comm]; exact hj2)
        have hr : j % sz < sz := Nat.mod_lt _ hsz
        have hj3 : j / sz * sz + j % sz = j := by rw [Nat.mul_comm]; exact Nat.div_add_mod j sz
        obtain ⟨c, y, h9, _⟩ := hget (j / sz) hi
        obtain ⟨_, h10, h11⟩ := World.cells?_some h9
        have h12 := h11 (j % sz) hr
        have h13 := flatten_get _ (fun c hcm => (hes c hcm).1) (j / sz) (j % sz) hr
        rw [hj3] at h13
        rw [h13, List.getElem?_map, List.getElem?_range hi]
        simp only [Option.map_some, Option.bind_some, h9, Option.getD_some]
        rw [← h12, Addr.add_add _ _ _ rfl]
        simp only [Nat.add_assoc, hj3]

/-- A slice of integers of one kind. -/
theorem open_ints_sl {t e : TypeId} {k : IntKind} {fuel : Nat} {v : Value} {x : DataW H × List MemPlace} (ht : P.underlying t = some (.slice e)) (he : P.underlying e = some (.int k)) (hc : P.cellsOf e = 1)
    (h : DataW.trod enc P w 0 (fun _ => true) true fuel t [v] = some x) :
    ∃ l : List Int, Sl w (fun _ => True) 1 v l.length (l.map (Value.int k)) ∧ ∀ n ∈ l, (Lit.int k n).wf = true := by
  obtain ⟨es, h1, h2⟩ := open_sl ht hc (by omega) h (fun c => ∃ n, c = [Value.int k n] ∧ (Lit.int k n).wf = true) (fun c ⟨n, hn, _⟩ => by subst hn; exact Ones.nil.cons rfl)
    (fun f c y hl hy => by
      obtain ⟨n, rfl, _, hw⟩ := DataW.trod_int he hy
      exact ⟨n, rfl, hw⟩)
  obtain ⟨l, rfl, h4⟩ := choose_list (f := fun n => [Value.int k n]) es (fun c hcm => (h1 c hcm).2)
  refine ⟨l, ?_, h4⟩
  have e1 : (l.map fun n => [Value.int k n]).flatten = l.map (Value.int k) := by
    clear h2 h1 h4
    induction l with
    | nil => rfl
    | cons a l ih => simp [ih]
  rw [e1] at h2
  simpa using h2

/-- The fields of a struct that reads, each as its own reading. -/
theorem open_fields {t : TypeId} {l : List Field} {fuel : Nat} {c : List Value} {x : DataW H × List MemPlace} (ht : P.underlying t = some (.struct l.toArray)) (h : DataW.trod enc P w 0 (fun _ => true) true fuel t c = some x) :
    ∃ n, ∀ (i : Nat) (f : Field), l[i]? = some f → ∃ y, DataW.trod enc P w 0 (fun _ => true) true n f.type ((c.drop f.offset).take (P.cellsOf f.type)) = some y := by
  obtain ⟨xs, n, _, _, _, hlen, hf⟩ := DataW.trod_struct ht h
  refine ⟨n, fun i f hi => ?_⟩
  have hlt : i < l.length := (List.getElem?_eq_some_iff.1 hi).1
  have hlen' : xs.length = l.length := by simpa using hlen
  exact ⟨xs[i], by rw [hf i f (by simpa using hi), List.getElem?_eq_getElem (by omega)]⟩
end
end Go.Afx
