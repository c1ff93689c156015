/- Bytes that are laid one behind the other. -/
import Derived.Test.YtdhdphmehjkbnaaVal
namespace Go.Proofs.Ytdhdphmehjkbnaa
open Go.RowKit Go.Afx

theorem elemU8 : Elem Try.prog 60 5 1 1 (.int .u8 0) :=
  ⟨Try.underlying60, by kernel_rfl, rfl, by omega, by intro u hu; simp [Value.cells] at hu; subst hu; rfl⟩

def by8 (l : List UInt8) : List Value := l.map fun c => .int .u8 (c.toNat : Int)
theorem by8_length (l : List UInt8) : (by8 l).length = l.length := by simp [by8]
theorem by8_append (a b : List UInt8) : by8 (a ++ b) = by8 a ++ by8 b := by simp [by8]
theorem by8_get (l : List UInt8) (k : Nat) (h : k < l.length) : (by8 l)[k]? = some (.int .u8 (l[k].toNat : Int)) := by simp [by8, h]
theorem by8_ones (l : List UInt8) : Ones (by8 l) := by
  intro u hu
  obtain ⟨x, _, rfl⟩ := List.mem_map.1 hu
  rfl

/-- The bytes l, kept in the first cell of the block b, in memory of their own; F: all that they lie in. -/
def Buf (w : World) (t : TypeId) (b : Nat) (F : Nat → Prop) (rest : List Value) (l : List UInt8) : Prop :=
  ∃ bv, Blk w b t (bv :: rest) ∧ Own w 5 1 bv l.length (by8 l) ∧ F b ∧ (∀ k, bv.ownBlock = some k → F k ∧ k ≠ b)

theorem Buf.only {w w' : World} {t : TypeId} {b : Nat} {F S : Nat → Prop} {rest : List Value} {l : List UInt8} (h : Buf w t b F rest l) (ho : Only S w w') (hd : ∀ k, F k → ¬ S k) : Buf w' t b F rest l := by
  obtain ⟨bv, h1, h2, h3, h4⟩ := h
  exact ⟨bv, h1.only ho (hd b h3), h2.only ho (fun k hk => hd k (h4 k hk).1), h3, h4⟩
theorem Buf.below {w w' : World} {t : TypeId} {b : Nat} {F : Nat → Prop} {rest : List Value} {l : List UInt8} (h : Buf w t b F rest l) (hb : Below w.heap.size w w') : Buf w' t b F rest l := by
  obtain ⟨bv, h1, h2, h3, h4⟩ := h
  exact ⟨bv, h1.below hb, h2.below hb, h3, h4⟩

theorem own_form2 {w : World} {e : TypeId} {sz : Nat} {v : Value} {n : Nat} {cs : List Value} (h : Own w e sz v n cs) : ∃ p cap, v = .slice p n cap ∧ n ≤ cap ∧ cap ≤ 9223372036854775807 :=
  (h.sl (B := fun _ => True) fun _ _ => trivial).form

set_option maxRecDepth 100000 in
theorem lay_any (w : World) (t : TypeId) (b : Nat) (F : Nat → Prop) (rest : List Value) (l : List UInt8) (hb : Buf w t b F rest l) (B : Nat → Prop) (v : Value) (x : List UInt8) (hx : Sl w B 1 v x.length (by8 x)) (hlen : l.length + x.length ≤ 1000000000) :
    Calls Try.prog 77 #[.pointer (some ⟨b, 0, none⟩), v] w fun e w' => e = .returned (.tuple #[]) ∧ ∃ F', Buf w' t b F' rest (l ++ x) ∧ Only F w w' ∧ ∀ k, F' k → F k ∨ w.heap.size ≤ k := by
  obtain ⟨bv, h1, h2, h3, h4⟩ := hb
  obtain ⟨p1, c1, rfl, hc1, hc2⟩ := own_form2 h2
  obtain ⟨p2, c2, rfl, hc3, hc4⟩ := hx.form
  have k0 : w.cell? ⟨b, 0, none⟩ = some (.slice p1 l.length c1) := h1.cell 0
  have hf : ∀ i, w.frozen? ⟨b, i, none⟩ = false := h1.frozen
  have H1 := Lib.hid h1
  have H4 := Lib.hid h4
  have H3 := Lib.hid h3
  clear h1 h3 h4
  go_enter Try.func77, Try.ntmps77
  go_wp2_with (first
    | (at_builtin; refine wpList_app rfl _ _ rfl elemU8 (by rfl) h2 (by rfl) hx (by unfold maxLen; omega) (by omega) ?_; intro v1 w2 g1 g2 g3 g4 g5; clear h2 hx; obtain ⟨p7, c7, rfl, hc71, hc72⟩ := own_form2 g1;
       have HK2 := Lib.hid (H1.out.only g2 (fun h => (H4.out _ h).2 rfl));
       have j1 : w2.cell? ⟨b, 0, none⟩ = some (.slice p1 l.length c1) := HK2.out.cell 0; have jf : ∀ i, w2.frozen? ⟨b, i, none⟩ = false := HK2.out.frozen;
       have G1 := Lib.hid g1; have G2 := Lib.hid g2; have G3 := Lib.hid g3; clear g1 g2 g3 g4 g5))
  go_end0
  have hlt := H1.out.lt
  have hnb : ∀ k, (Value.slice p7 (l.length + x.length) c7).ownBlock = some k → k ≠ b := fun k hk he => by
    subst he
    rcases G3.out with h | h
    · exact (H4.out k (by rw [← h]; exact hk)).2 rfl
    · rw [h] at hk
      have : w.heap.size = k := by simpa using hk
      omega
  refine ⟨rfl, fun k => F k ∨ (Value.slice p7 (l.length + x.length) c7).ownBlock = some k, ⟨_, HK2.out.set 0 _, ?_, .inl H3.out, fun k hk => ⟨.inr hk, hnb k hk⟩⟩, ?_, fun k hk => ?_⟩
  · have h9 := G1.out.setOther (p := ⟨b, 0, none⟩) (fun h => hnb _ h rfl) (.slice p7 (l.length + x.length) c7)
    rw [List.length_append, by8_append]
    exact h9
  · exact (G2.out.mono (fun k _ h => (H4.out k h).1)).setCell (fun _ => H3.out) _
  · rcases hk with hk | hk
    · exact .inl hk
    · rcases G3.out with h | h
      · exact .inl (H4.out k (by rw [← h]; exact hk)).1
      · rw [h] at hk
        have : w.heap.size = k := by simpa using hk
        exact .inr (by omega)
end Go.Proofs.Ytdhdphmehjkbnaa
