/- Memory: append of a text onto bytes of one's own. -/
import Derived.Test.YtlgohkdckdnmhaaDoorMemB
import Derived.Deep.AppendSrc
namespace Go.Afx
open Go Go.RowKit

section
variable {P : Program} {t e ty tx : TypeId} {z : Value} {w : World}

theorem byteCells_ones (s : ByteArray) : Ones (byteCells s) := by
  intro u hu
  obtain ⟨_, _, rfl⟩ := List.mem_map.1 hu
  rfl

/-- append of a text onto a slice of one's own. -/
theorem run_app_str (he : Elem P t e 1 1 z) (hu : P.underlying tx = some .string) {v : Value} {n : Nat} {cs : List Value} (hown : Own w e 1 v n cs) (s : ByteArray) (hb : n + s.size ≤ 140737488355328) :
    ∃ v' w', (Builtin.append_ #[t, tx] ty #[v, .string s]).run P w = .ok v' w' ∧ Own w' e 1 v' (n + s.size) (cs ++ byteCells s) ∧ Only (fun k => v.ownBlock = some k) w w' ∧
      (v'.ownBlock = v.ownBlock ∨ v'.ownBlock = some w.heap.size) ∧ w'.heap.size ≤ w.heap.size + 1 ∧ (0 < n + s.size → v'.ownBlock ≠ none) := by
  obtain ⟨i, hi, hz, hsize, hby⟩ := he.parts
  have ht := he.sl
  have hzs := he.zs
  have hlenS := byteCells_length s
  have hlen : (cs ++ byteCells s).length = (n + s.size) * 1 := by rw [List.length_append, hown.1, hlenS, Nat.add_mul, Nat.mul_one, Nat.mul_one]
  have hones : Ones (cs ++ byteCells s) := hown.2.1.append (byteCells_ones s)
  have hml : n + s.size ≤ maxLen := by unfold maxLen; omega
  have hsrc : Src P i.size tx (.string s) s.size (byteCells s) w := by rw [hsize]; exact Src.ofString w hu s
  have grown : ∀ (old : Nat) (S : Nat → Prop),
      Own (w.drew.alloc (.cells ((cs ++ byteCells s).toArray ++ Builtin.zeroCells z.cells (grownCap w (n + s.size) old e - (n + s.size))) e)) e 1
        (.slice (some ⟨w.heap.size, 0, none⟩) (n + s.size) (grownCap w (n + s.size) old e)) (n + s.size) (cs ++ byteCells s) ∧
      Only S w (w.drew.alloc (.cells ((cs ++ byteCells s).toArray ++ Builtin.zeroCells z.cells (grownCap w (n + s.size) old e - (n + s.size))) e)) := by
    intro old S
    have hge := grownCap_ge w (n + s.size) old e
    have hcm : grownCap w (n + s.size) old e ≤ maxLen := grownCap_le_maxLen w (n + s.size) old e hml
    have hsz2 : (cs ++ byteCells s ++ (Builtin.zeroCells z.cells (grownCap w (n + s.size) old e - (n + s.size))).toList).length = grownCap w (n + s.size) old e * 1 := by
      rw [List.length_append, hlen, Array.length_toList, size_zeroCells, hzs]
      omega
    have h1 := Own.made w.drew e 1 (cs ++ byteCells s) (Builtin.zeroCells z.cells (grownCap w (n + s.size) old e - (n + s.size))).toList (n + s.size) (grownCap w (n + s.size) old e) hlen hones hge hcm (by omega)
    have e1 : (cs ++ byteCells s ++ (Builtin.zeroCells z.cells (grownCap w (n + s.size) old e - (n + s.size))).toList).toArray = (cs ++ byteCells s).toArray ++ Builtin.zeroCells z.cells (grownCap w (n + s.size) old e - (n + s.size)) := by simp
    rw [e1] at h1
    exact ⟨h1, ((Only.refl S w).drew).alloc _⟩
  rcases hown.2.2 with ⟨rfl, rfl⟩ | ⟨g, off, cap, cur, rfl, hbk, hnc, hcm, hcs, htake⟩
  · have hc0 : cs = [] := List.eq_nil_of_length_eq_zero (by simpa using hown.1)
    subst hc0
    by_cases hm : s.size = 0
    · have hn0 : byteCells s = [] := List.eq_nil_of_length_eq_zero (by rw [hlenS]; exact hm)
      refine ⟨.slice none 0 0, w, ?_, by rw [hm, hn0]; exact Own.nil w e 1, Only.refl _ w, .inl rfl, by omega, by omega⟩
      have hfc := firstCells_string (P := P) s w
      rw [hm] at hfc
      simp [Builtin.append_, run_underlying ht, run_underlying hu, sizeOf, typeInfo, hi, Builtin.lenOf, hm, hsize, hfc]
    · have hr := run_append_grow_src (P := P) w t tx ty e i z ht hi hz none 0 0 [] (by simp [Builtin.firstCells]) (.string s) s.size (byteCells s) hsrc (by omega) (by omega) (growslice_fits (by omega) (by rw [hby]; omega))
      obtain ⟨g1, g2⟩ := grown 0 (fun k => (Value.slice none 0 0).ownBlock = some k)
      simp only [Nat.zero_add, List.nil_append] at g1 g2 hr ⊢
      exact ⟨_, _, hr, g1, g2, .inr rfl, by simp, by simp [Value.ownBlock]⟩
  · by_cases hroom : n + s.size ≤ cap
    · have hfit : (off + n * 1) + 0 + (byteCells s).length ≤ cur.toArray.size := by
        simp only [List.size_toArray, hlenS]
        omega
      have hst := run_storeCells_at P g (off + n * 1) e (byteCells s) 0 cur.toArray w hbk hfit (byteCells_ones s)
      simp only [Nat.add_zero, Nat.mul_one] at hst
      have hr : (Builtin.append_ #[t, tx] ty #[.slice (some ⟨g, off, none⟩) n cap, .string s]).run P w = .ok (.slice (some ⟨g, off, none⟩) (n + s.size) cap) (w.setRow g (cur.take (off + n) ++ byteCells s ++ cur.drop (off + n + (byteCells s).length)).toArray) := by
        simp [Builtin.append_, run_underlying ht, run_underlying hu, sizeOf, typeInfo, hi, Builtin.lenOf, hroom, hsize, firstCells_string (P := P) s, Addr.add_lit, hst]
      refine ⟨_, _, hr, ⟨hlen, hones, .inr ⟨g, off, cap, _, rfl, hbk.setRow _, hroom, hcm, ?_, ?_⟩⟩, (Only.refl _ w).setRow (fun _ => by simp [Value.ownBlock]) _, .inl rfl, by simp [World.setRow], by simp [Value.ownBlock]⟩
      · simp only [List.length_append, List.length_take, List.length_drop, hlenS]
        omega
      · have h4 := splice_read cur (byteCells s) cs off (n * 1) (by omega) htake hown.1
        rw [hlenS, Nat.mul_one] at h4
        rw [Nat.mul_one, hlenS]
        exact h4
    · have holds : ∀ j u, cs[j]? = some u → w.cell? ((⟨g, off, none⟩ : Addr).add j) = some u := by
        have hs := hown.sl (B := fun _ => True) (fun _ _ => trivial)
        rcases hs.2.2 with ⟨_, _, _, h0, _⟩ | ⟨g2, off2, cap2, hv, _, _, _, _, h5⟩
        · have : cs = [] := List.eq_nil_of_length_eq_zero (by rw [hown.1, h0, Nat.zero_mul])
          intro j u hu
          simp [this] at hu
        · cases hv
          exact news_of_sl h5
      have hr := run_append_grow_src (P := P) w t tx ty e i z ht hi hz (some ⟨g, off, none⟩) n cap cs (run_firstCells_some w.drew i.size n ⟨g, off, none⟩ n cap cs (by rw [hsize]; exact hown.1) (by simpa using holds)) (.string s) s.size (byteCells s) hsrc (by omega) (by omega) (growslice_fits (by omega) (by rw [hby]; omega))
      obtain ⟨g1, g2⟩ := grown cap (fun k => (Value.slice (some ⟨g, off, none⟩) n cap).ownBlock = some k)
      exact ⟨_, _, hr, g1, g2, .inr rfl, by simp, by simp [Value.ownBlock]⟩

theorem wpList_app_str {ops : Array Oper} {rest : List Oper} {o : Oper} {a : Act} {Q : Exit → Act → World → Prop} (hgd : o.guard = none) (sv x : Operand) (ho : o.op = .call { callee := .builtin .append, args := #[sv, x], argTypes := #[t, tx] })
    (he : Elem P t e 1 1 z) (hu : P.underlying tx = some .string) {v : Value} {n : Nat} {cs : List Value} (hs : a.eval sv = v) (hown : Own w e 1 v n cs) (s : ByteArray) (hx : a.eval x = .string s) (hb : n + s.size ≤ 140737488355328)
    (h : ∀ v' w', Own w' e 1 v' (n + s.size) (cs ++ byteCells s) → Only (fun k => v.ownBlock = some k) w w' → (v'.ownBlock = v.ownBlock ∨ v'.ownBlock = some w.heap.size) → w'.heap.size ≤ w.heap.size + 1 →
      wpList P ops Q rest (a.put o.dst v') w') : wpList P ops Q (o :: rest) a w := by
  obtain ⟨v', w', hr, h1, h2, h3, h4, _⟩ := run_app_str (P := P) (ty := o.type) he hu hown s hb
  refine wpList_plain hgd fun K hK => ?_
  unfold Oper.wp execOp
  simp only [ho, resolve, invoke, builtin, Sem.run_bind, Sem.run_pure, Result.andThen_ok, List.map_toArray, List.map_cons, List.map_nil, hs, hx, hr]
  exact hK _ _ (h v' w' h1 h2 h3 h4)
end
end Go.Afx
