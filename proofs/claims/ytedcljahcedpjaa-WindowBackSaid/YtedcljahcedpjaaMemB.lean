/- Memory, more: append where there is room; clear; the steps of a walk for append, clear and a fresh empty row. -/
import Derived.Test.YtedcljahcedpjaaMem
namespace Go.Afx
open Go Go.RowKit

section
variable {P : Program} {t e ty : TypeId} {sz bytes : Nat} {z : Value} {w : World}

theorem Blk.congr {b : Nat} {t : TypeId} {cs cs' : List Value} (h : Blk w b t cs) (e : cs = cs') : Blk w b t cs' := e ▸ h

theorem Sl.first {B : Nat → Prop} {x : Value} {m : Nat} {news : List Value} (hx : Sl w B sz x m news) :
    (Builtin.firstCells sz m x).run P w = .ok news.toArray w ∧ (Builtin.lenOf x).run P w = .ok m w := by
  rcases hx.2.2 with ⟨p, cap, rfl, rfl, _, _⟩ | ⟨g', off', cap', rfl, _, _, _, _, hcell⟩
  · have hn0 : news = [] := List.eq_nil_of_length_eq_zero (by simpa using hx.1)
    subst hn0
    exact ⟨by cases p <;> simp [Builtin.firstCells, loadCells, loadCellsFrom], by simp [Builtin.lenOf]⟩
  · exact ⟨run_firstCells_some w sz m ⟨g', off', none⟩ m cap' news hx.1 (news_of_sl hcell), by simp [Builtin.lenOf]⟩

/-- append where there is room: the same place. -/
theorem run_app_room (he : Elem P t e sz bytes z) {g off n cap : Nat} {cs : List Value} (hown : Own w e sz (.slice (some ⟨g, off, none⟩) n cap) n cs) {B : Nat → Prop} {x : Value} {m : Nat} {news : List Value}
    (hx : Sl w B sz x m news) (hroom : n + m ≤ cap) :
    ∃ w', (Builtin.append_ #[t, t] ty #[.slice (some ⟨g, off, none⟩) n cap, x]).run P w = .ok (.slice (some ⟨g, off, none⟩) (n + m) cap) w' ∧ Own w' e sz (.slice (some ⟨g, off, none⟩) (n + m) cap) (n + m) (cs ++ news) ∧
      Only (fun k => k = g) w w' ∧ w'.heap.size = w.heap.size := by
  obtain ⟨i, hi, hz, hsize, hby⟩ := he.parts
  have ht := he.sl
  subst hsize
  have hlen : (cs ++ news).length = (n + m) * i.size := by rw [List.length_append, hown.1, hx.1, Nat.add_mul]
  have hones : Ones (cs ++ news) := hown.2.1.append hx.2.1
  rcases hown.2.2 with ⟨h0, _⟩ | ⟨g2, off2, cap2, cur, hv, hbk, hnc, hcm, hcs, htake⟩
  · cases h0
  cases hv
  have hxr := hx.first (P := P)
  have hfit : (off + n * i.size) + 0 + news.length ≤ cur.toArray.size := by
    have : (n + m) * i.size ≤ cap * i.size := Nat.mul_le_mul_right _ hroom
    rw [Nat.add_mul] at this
    simp only [List.size_toArray, hx.1]
    omega
  have hst := run_storeCells_at P g (off + n * i.size) e news 0 cur.toArray w hbk hfit hx.2.1
  simp only [Nat.add_zero] at hst
  have hr : (Builtin.append_ #[t, t] ty #[.slice (some ⟨g, off, none⟩) n cap, x]).run P w = .ok (.slice (some ⟨g, off, none⟩) (n + m) cap) (w.setRow g (cur.take (off + n * i.size) ++ news ++ cur.drop (off + n * i.size + news.length)).toArray) := by
    rcases hx.2.2 with ⟨p, cap, rfl, rfl, _, _⟩ | ⟨g', off', cap', rfl, _, _, _, _, hcell⟩
    · simp [Builtin.append_, run_underlying ht, sizeOf, typeInfo, hi, hnc, hxr.1, hxr.2, Addr.add_lit, hst]
    · simp [Builtin.append_, run_underlying ht, sizeOf, typeInfo, hi, hroom, hxr.1, hxr.2, Addr.add_lit, hst]
  have h3 : (n + m) * i.size ≤ cap * i.size := Nat.mul_le_mul_right _ hroom
  rw [Nat.add_mul] at h3
  refine ⟨_, hr, ⟨hlen, hones, .inr ⟨g, off, cap, _, rfl, hbk.setRow _, hroom, hcm, ?_, ?_⟩⟩, Only.setRow (S := fun k => k = g) (Only.refl _ w) (fun _ => rfl) _, by simp [World.setRow]⟩
  · simp only [List.length_append, List.length_take, List.length_drop, hx.1]
    omega
  · have h4 := splice_read cur news cs off (n * i.size) (by omega) htake hown.1
    rw [Nat.add_mul, ← hx.1]
    exact h4

theorem ones_zeroCells {z : Array Value} (h : Ones z.toList) (n : Nat) : Ones (Builtin.zeroCells z n).toList := by
  intro u hu
  unfold Builtin.zeroCells at hu
  simp only [Array.toList_map, List.mem_map, Array.toList_range, List.mem_range] at hu
  obtain ⟨j, hj, rfl⟩ := hu
  have hz : 0 < z.size := by rcases Nat.eq_zero_or_pos z.size with h0 | h0; · rw [h0] at hj; omega
                             · exact h0
  have hlt : j % z.size < z.size := Nat.mod_lt _ hz
  rw [getElem!_pos z _ hlt]
  exact h _ (by simp)

/-- A store into an own slice. -/
theorem Own.store {g off n cap : Nat} {cs : List Value} (h : Own w e sz (.slice (some ⟨g, off, none⟩) n cap) n cs) {j : Nat} (u : Value) (hu : u.oneCell' = true) :
    Own (w.setCell ⟨g, off + j, none⟩ u) e sz (.slice (some ⟨g, off, none⟩) n cap) n (cs.set j u) := by
  refine ⟨by rw [List.length_set]; exact h.1, fun x hx => ?_, ?_⟩
  · rcases List.mem_or_eq_of_mem_set hx with h1 | rfl
    · exact h.2.1 x h1
    · exact hu
  rcases h.2.2 with ⟨h0, _⟩ | ⟨g', off', cap', cur, hv, hb, h1, h2, h3, h4⟩
  · cases h0
  · cases hv
    refine .inr ⟨g, off, cap, cur.set (off + j) u, rfl, hb.set _ _, h1, h2, by rw [List.length_set]; exact h3, ?_⟩
    rw [← h4, List.drop_set, if_neg (by omega), List.take_set]
    congr 1
    omega
theorem Own.cellAt {g off n cap : Nat} {cs : List Value} (h : Own w e sz (.slice (some ⟨g, off, none⟩) n cap) n cs) {j : Nat} (hj : j < n * sz) : w.cell? ⟨g, off + j, none⟩ = cs[j]? ∧ w.frozen? ⟨g, off + j, none⟩ = false := by
  rcases h.2.2 with ⟨h0, _⟩ | ⟨g', off', cap', cur, hv, hb, h1, h2, h3, h4⟩
  · cases h0
  · cases hv
    exact ⟨by rw [hb.cell, ← h4, List.getElem?_take, List.getElem?_drop, if_pos hj], hb.frozen _⟩

/-- clear of the spare room behind an own slice. -/
theorem run_clear_spare (he : Elem P t e sz bytes z) {g off n cap : Nat} {cs : List Value} (hown : Own w e sz (.slice (some ⟨g, off, none⟩) n cap) n cs) {k o2 c2 : Nat} (hk : n + k ≤ cap) (ho : 0 < k → o2 = off + n * sz) :
    ∃ w', (Builtin.clear_ #[t] ty #[.slice (some ⟨g, o2, none⟩) k c2]).run P w = .ok (.tuple #[]) w' ∧ Own w' e sz (.slice (some ⟨g, off, none⟩) n cap) n cs ∧ Only (fun k => k = g) w w' ∧ w'.heap.size = w.heap.size := by
  obtain ⟨i, hi, hz, hsize, hby⟩ := he.parts
  have ht := he.sl
  subst hsize
  rcases Nat.eq_zero_or_pos k with rfl | hkp
  · refine ⟨w, ?_, hown, Only.refl _ w, rfl⟩
    simp [Builtin.clear_, run_underlying ht]
  have := ho hkp
  subst this
  rcases hown.2.2 with ⟨h0, _⟩ | ⟨g2, off2, cap2, cur, hv, hbk, hnc, hcm, hcs, htake⟩
  · cases h0
  cases hv
  have h3 : (n + k) * i.size ≤ cap * i.size := Nat.mul_le_mul_right _ hk
  rw [Nat.add_mul] at h3
  have hzl : (Builtin.zeroCells z.cells k).toList.length = k * i.size := by rw [Array.length_toList, size_zeroCells, he.zs]
  have hst := run_storeCells_at P g (off + n * i.size) e (Builtin.zeroCells z.cells k).toList 0 cur.toArray w hbk (by simp only [List.size_toArray, hzl]; omega) (ones_zeroCells he.one k)
  simp only [Nat.add_zero] at hst
  refine ⟨_, ?_, ⟨hown.1, hown.2.1, .inr ⟨g, off, cap, _, rfl, hbk.setRow (cur.take (off + n * i.size) ++ (Builtin.zeroCells z.cells k).toList ++ cur.drop (off + n * i.size + (Builtin.zeroCells z.cells k).toList.length)), hnc, hcm, ?_, ?_⟩⟩, Only.setRow (S := fun k => k = g) (Only.refl _ w) (fun _ => rfl) _, by simp [World.setRow]⟩
  · obtain ⟨k', rfl⟩ : ∃ k', k = k' + 1 := ⟨k - 1, by omega⟩
    simp only [Builtin.clear_, List.getElem?_toArray, List.getElem?_cons_zero, Sem.run_bind, run_underlying ht, Result.andThen_ok]
    simp [zeroValue, typeInfo, hi, hz, hst]
  · simp only [List.length_append, List.length_take, List.length_drop, hzl]
    omega
  · have h4 := splice_read cur (Builtin.zeroCells z.cells k).toList cs off (n * i.size) (by omega) htake hown.1
    have h5 := congrArg (List.take (n * i.size)) h4
    rw [List.take_take, Nat.min_eq_left (by omega), ← hown.1, List.take_left, hown.1] at h5
    exact h5

section steps
variable {ops : Array Oper} {rest : List Oper} {o : Oper} {a : Act} {Q : Exit → Act → World → Prop}

theorem wpList_app (hgd : o.guard = none) (s x : Operand) (ho : o.op = .call { callee := .builtin .append, args := #[s, x], argTypes := #[t, t] })
    (he : Elem P t e sz bytes z) {v : Value} {n : Nat} {cs : List Value} (hs : a.eval s = v) (hown : Own w e sz v n cs) {B : Nat → Prop} {xv : Value} {m : Nat} {news : List Value} (hx : a.eval x = xv) (hsl : Sl w B sz xv m news)
    (h63 : n + m ≤ maxLen) (hb : (n + m) * bytes ≤ 140737488355328)
    (h : ∀ v' w', Own w' e sz v' (n + m) (cs ++ news) → Only (fun k => v.ownBlock = some k) w w' → (v'.ownBlock = v.ownBlock ∨ v'.ownBlock = some w.heap.size) → w'.heap.size ≤ w.heap.size + 1 →
      (0 < n + m → v'.ownBlock ≠ none) → wpList P ops Q rest (a.put o.dst v') w') : wpList P ops Q (o :: rest) a w := by
  obtain ⟨v', w', hr, h1, h2, h3, h4, _, h6⟩ := run_app (P := P) (ty := o.type) he hown hsl h63 hb
  refine wpList_plain hgd fun K hK => ?_
  unfold Oper.wp execOp
  simp only [ho, resolve, invoke, builtin, Sem.run_bind, Sem.run_pure, Result.andThen_ok, List.map_toArray, List.map_cons, List.map_nil, hs, hx, hr]
  exact hK _ _ (h v' w' h1 h2 h3 h4 h6)

theorem wpList_app_room (hgd : o.guard = none) (s x : Operand) (ho : o.op = .call { callee := .builtin .append, args := #[s, x], argTypes := #[t, t] })
    (he : Elem P t e sz bytes z) {g off n cap : Nat} {cs : List Value} (hs : a.eval s = .slice (some ⟨g, off, none⟩) n cap) (hown : Own w e sz (.slice (some ⟨g, off, none⟩) n cap) n cs) {B : Nat → Prop} {xv : Value} {m : Nat} {news : List Value}
    (hx : a.eval x = xv) (hsl : Sl w B sz xv m news) (hroom : n + m ≤ cap)
    (h : ∀ w', Own w' e sz (.slice (some ⟨g, off, none⟩) (n + m) cap) (n + m) (cs ++ news) → Only (fun k => k = g) w w' → w'.heap.size = w.heap.size →
      wpList P ops Q rest (a.put o.dst (.slice (some ⟨g, off, none⟩) (n + m) cap)) w') : wpList P ops Q (o :: rest) a w := by
  obtain ⟨w', hr, h1, h2, h3⟩ := run_app_room (P := P) (ty := o.type) he hown hsl hroom
  refine wpList_plain hgd fun K hK => ?_
  unfold Oper.wp execOp
  simp only [ho, resolve, invoke, builtin, Sem.run_bind, Sem.run_pure, Result.andThen_ok, List.map_toArray, List.map_cons, List.map_nil, hs, hx, hr]
  exact hK _ _ (h w' h1 h2 h3)

theorem wpList_clear_spare (hgd : o.guard = none) (x : Operand) (ho : o.op = .call { callee := .builtin .clear, args := #[x], argTypes := #[t] })
    (he : Elem P t e sz bytes z) {g off n cap : Nat} {cs : List Value} (hown : Own w e sz (.slice (some ⟨g, off, none⟩) n cap) n cs) {k o2 c2 : Nat} (hx : a.eval x = .slice (some ⟨g, o2, none⟩) k c2) (hk : n + k ≤ cap) (ho2 : 0 < k → o2 = off + n * sz)
    (h : ∀ w', Own w' e sz (.slice (some ⟨g, off, none⟩) n cap) n cs → Only (fun k => k = g) w w' → w'.heap.size = w.heap.size → wpList P ops Q rest (a.put o.dst (.tuple #[])) w') : wpList P ops Q (o :: rest) a w := by
  obtain ⟨w', hr, h1, h2, h3⟩ := run_clear_spare (P := P) (ty := o.type) he hown (c2 := c2) hk ho2
  refine wpList_plain hgd fun K hK => ?_
  unfold Oper.wp execOp
  simp only [ho, resolve, invoke, builtin, Sem.run_bind, Sem.run_pure, Result.andThen_ok, List.map_toArray, List.map_cons, List.map_nil, hx, hr]
  exact hK _ _ (h w' h1 h2 h3)
end steps
end
end Go.Afx
