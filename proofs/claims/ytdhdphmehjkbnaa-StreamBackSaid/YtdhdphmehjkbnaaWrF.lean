/- The writer: a row, rows. -/
import Derived.Test.YtdhdphmehjkbnaaWrE
import Derived.Test.YtdhdphmehjkbnaaRows2
namespace Go.Proofs.Ytdhdphmehjkbnaa
open Go.RowKit Go.Afx

def rowB (l : List AV) : List UInt8 := sizeB l.length ++ laid valB l
theorem rowB_len (l : List AV) (h : ∀ a ∈ l, fit64 a.n) (hl : l.length ≤ 100) : (rowB l).length ≤ 101009 := by
  have h1 := laid_len valB 1010 l (fun a ha => valB_len a (h a ha))
  have h2 := be_len8 (max (l.length : Int) 0).toNat (by omega)
  unfold rowB sizeB
  rw [List.length_append]; omega

/-- A length, laid beside a new row that holds it. -/
theorem size_one (w : World) (t : TypeId) (b : Nat) (F : Nat → Prop) (rest : List Value) (l : List UInt8) (hb : Buf w t b F rest l) (n : Nat) (hn : n ≤ 1000000) (hlen : l.length ≤ 100000000) :
    Hid (Calls Try.prog 34 #[.pointer (some ⟨b, 0, none⟩), .slice (some ⟨w.heap.size, 0, none⟩) 1 1] (w.alloc (.cells #[.int .i64 n] 3)) fun e w' => e = .returned (.pointer (some ⟨b, 0, none⟩)) ∧ ∃ F', Buf w' t b F' rest (l ++ sizeB n) ∧ Only F w w' ∧ ∀ k, F' k → F k ∨ w.heap.size ≤ k) := by
  have hw6 : Below w.heap.size w (w.alloc (.cells #[.int .i64 n] 3)) := (Below.refl _ _).alloc (Nat.le_refl _) _
  have hsl6 : Sl (w.alloc (.cells #[.int .i64 n] 3)) (fun q => ¬ (F q ∧ q < w.heap.size)) 1 (.slice (some ⟨w.heap.size, 0, none⟩) 1 1) [(n : Int)].length (ints [(n : Int)]) :=
    (Own.made w 3 1 (ints [(n : Int)]) [] 1 1 rfl (Ones.nil.cons rfl) (Nat.le_refl _) (by simp [maxLen]) (by simp [ints])).sl (fun q hq h => absurd h.2 (Nat.not_lt_of_le (Nat.le_of_eq (show w.heap.size = q by simpa [Value.ownBlock] using hq))))
  refine (size_wr _ t b _ rest l (hb.tight.below hw6) _ [(n : Int)] hsl6 (by intro q hq; rw [List.mem_singleton.1 hq]; unfold fit64; omega) hlen (by simp)).mono ?_
  rintro e w' ⟨he, F', h1, h2, h3⟩
  refine ⟨he, F', by simpa [laid] using h1, (((Only.refl (fun q => F q ∧ q < w.heap.size) w).alloc _).trans h2 (fun _ _ h => h)).mono (fun _ _ h => h.1), fun k hk => ?_⟩
  rcases h3 k hk with h | h
  · exact .inl h.1
  · exact .inr (Nat.le_trans (by simp) h)

set_option maxRecDepth 100000 in
theorem row_wr (w : World) (t : TypeId) (b : Nat) (F : Nat → Prop) (rest : List Value) (l : List UInt8) (hb : Buf w t b F rest l) (v : Value) (x : List AV) (hx : Sl w (fun k => ¬ F k) 3 v x.length (rowCells x)) (hf : ∀ a ∈ x, fit64 a.n) (hlen : l.length ≤ 30000000) (hxl : x.length ≤ 1000) :
    Calls Try.prog 38 #[.pointer (some ⟨b, 0, none⟩), v] w fun e w' => e = .returned (.pointer (some ⟨b, 0, none⟩)) ∧ ∃ F', Buf w' t b F' rest (l ++ rowB x) ∧ Only F w w' ∧ ∀ k, F' k → F k ∨ w.heap.size ≤ k := by
  obtain ⟨p, cap, rfl, hc1, hc2⟩ := hx.form
  have HS := size_one w t b F rest l hb x.length (by omega) (by omega)
  have HV : Hid (∀ (w2 : World) (F2 : Nat → Prop), Buf w2 t b F2 rest (l ++ sizeB x.length) → Only F w w2 → (∀ k, F2 k → F k ∨ w.heap.size ≤ k) → Calls Try.prog 37 #[.pointer (some ⟨b, 0, none⟩), .slice p x.length cap] w2 fun e w' => e = .returned (.pointer (some ⟨b, 0, none⟩)) ∧ ∃ F', Buf w' t b F' rest (l ++ rowB x) ∧ Only F2 w2 w' ∧ ∀ k, F' k → F2 k ∨ w2.heap.size ≤ k) := fun w2 F2 h1 h2 h3 => by
    have hx2 : Sl w2 (fun k => ¬ F2 k) 3 (.slice p x.length cap) x.length (rowCells x) :=
      Sl.mono hx h2.size (fun k hk hlt => h2.block k hlt hk) (fun k hk hlt h => by
        rcases h3 k h with h4 | h4
        · exact hk h4
        · omega)
    have := value_wr w2 t b F2 rest _ h1 _ x hx2 hf (by
      have h2 := be_len8 (max (x.length : Int) 0).toNat (by omega)
      unfold sizeB
      rw [List.length_append]; omega) hxl
    rw [List.append_assoc] at this
    exact this
  clear hb hx hf
  go_enter Try.func38, Try.ntmps38
  go_wp2_with (first
    | (go_at_call 34; refine HS.out.mono ?_; clear HS; rintro e w2 ⟨rfl, F2, h21, h22, h23⟩; have HV2 := Lib.hid (HV.out w2 F2 h21 h22 h23); have H22 := Lib.hid h22; have H23 := Lib.hid h23; clear h21 h22 h23)
    | (go_at_call 37; refine HV2.out.mono ?_; clear HV2; rintro e w3 ⟨rfl, F3, h31, h32, h33⟩))
  go_ret
  refine ⟨rfl, F3, h31, H22.out.trans h32 (fun q hq h => ?_), fun q hq => ?_⟩
  · rcases H23.out q h with h2 | h2
    · exact h2
    · omega
  · rcases h33 q hq with h | h
    · exact H23.out q h
    · exact .inr (Nat.le_trans H22.out.size h)

def rowsB (rows : List RowV) : List UInt8 := sizeB rows.length ++ laid (fun r => rowB r.l) rows
def IsRows (w : World) (B : Nat → Prop) (v : Value) (rows : List RowV) : Prop :=
  Sl w B 1 v rows.length (rowVals rows) ∧ ∀ r ∈ rows, Sl w B 3 r.v r.l.length (rowCells r.l) ∧ (∀ a ∈ r.l, fit64 a.n) ∧ r.l.length ≤ 1000
end Go.Proofs.Ytdhdphmehjkbnaa
