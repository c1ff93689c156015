/- Numbers in temporaries and in variables, beside each other, whatever order their memory is made in. -/
import Derived.Test.YtlgohkdckdnmhaaDoorBigI
namespace Go.Proofs.YtlgohkdckdnmhaaDoor
open Go.RowKit Go.Afx

/-- raw: a variable just made; bs: the blocks of variables; vals: numbers at hand; vars: numbers that lie in variables. -/
structure Nums (w wc : World) (raw : Option Nat) (bs : List Nat) (vals : List (Value × Int)) (vars : List (Nat × Int)) : Prop where
  below : Below w.heap.size w wc
  bnd : ∀ b ∈ bs, w.heap.size ≤ b ∧ b < wc.heap.size
  raws : ∀ b, raw = some b → Blk wc b 103 [.bool false, .slice none 0 0] ∧ b ∈ bs ∧ ∀ x ∈ vars, x.1 ≠ b
  val : ∀ x ∈ vals, IsNum wc (fun k => k ∉ bs) x.1 x.2
  var : ∀ x ∈ vars, x.1 ∈ bs ∧ ∃ s p l c, Blk wc x.1 103 [.bool s, .slice p l c] ∧ IsNum wc (fun k => k ∉ bs) (.agg #[.bool s, .slice p l c]) x.2

variable {w wc : World} {raw : Option Nat} {bs : List Nat} {vals : List (Value × Int)} {vars : List (Nat × Int)}

theorem Nums.start (w : World) : Nums w w none [] [] [] := ⟨Below.refl _ _, by simp, by simp, by simp, by simp⟩
theorem Nums.drew (h : Nums w wc raw bs vals vars) : Nums w wc.drew raw bs vals vars :=
  ⟨h.below.drew, h.bnd, fun b hb => h.raws b hb, fun x hx => IsNum.drew (h.val x hx), fun x hx => ⟨(h.var x hx).1, by
    obtain ⟨s, p, l, c, h1, h2⟩ := (h.var x hx).2
    exact ⟨s, p, l, c, h1, IsNum.drew h2⟩⟩⟩
theorem Nums.keep {w' : World} (h : Nums w wc raw bs vals vars) (hb : Below wc.heap.size wc w') : Nums w w' raw bs vals vars :=
  ⟨h.below.trans (hb.mono h.below.size), fun b hm => ⟨(h.bnd b hm).1, Nat.lt_of_lt_of_le (h.bnd b hm).2 hb.size⟩, fun b hr => ⟨(h.raws b hr).1.below hb, (h.raws b hr).2⟩,
    fun x hx => (h.val x hx).below hb, fun x hx => ⟨(h.var x hx).1, by
      obtain ⟨s, p, l, c, h1, h2⟩ := (h.var x hx).2
      exact ⟨s, p, l, c, h1.below hb, h2.below hb⟩⟩⟩
/-- A call that answers a new number. -/
theorem Nums.call {w' : World} {v : Value} {z : Int} (h : Nums w wc raw bs vals vars) (hb : Below wc.heap.size wc w') (hn : IsNum w' (fun k => wc.heap.size ≤ k) v z) : Nums w w' raw bs ((v, z) :: vals) vars := by
  have h2 := h.keep hb
  refine ⟨h2.below, h2.bnd, h2.raws, fun x hx => ?_, h2.var⟩
  rcases List.mem_cons.1 hx with rfl | hx
  · exact hn.weak fun k hk hm => by have := (h.bnd k hm).2; omega
  · exact h2.val x hx
/-- A call that answers a number of the old digits. -/
theorem Nums.call' {w' : World} {v : Value} {z : Int} (h : Nums w wc raw bs vals vars) (hb : Below wc.heap.size wc w') (hn : IsNum w' (fun k => k ∉ bs) v z) : Nums w w' raw bs ((v, z) :: vals) vars := by
  have h2 := h.keep hb
  refine ⟨h2.below, h2.bnd, h2.raws, fun x hx => ?_, h2.var⟩
  rcases List.mem_cons.1 hx with rfl | hx
  · exact hn
  · exact h2.val x hx
theorem Nums.alloc (h : Nums w wc raw bs vals vars) : Nums w (wc.alloc (.cells #[.bool false, .slice none 0 0] 103)) (some wc.heap.size) (wc.heap.size :: bs) vals vars := by
  have hsz : (wc.alloc (.cells #[.bool false, .slice none 0 0] 103)).heap.size = wc.heap.size + 1 := by simp
  have hk : ∀ {v : Value} {z : Int}, IsNum wc (fun k => k ∉ bs) v z → IsNum (wc.alloc (.cells #[.bool false, .slice none 0 0] 103)) (fun k => k ∉ wc.heap.size :: bs) v z := fun hn =>
    (IsNum.alloc' hn _ (fun k hk => hk)).weak fun k hk hm => by
      rcases List.mem_cons.1 hm with rfl | hm
      · exact hk.2 rfl
      · exact hk.1 hm
  refine ⟨h.below.alloc h.below.size _, fun b hb => ?_, fun b hb => ?_, fun x hx => hk (h.val x hx), fun x hx => ⟨List.mem_cons_of_mem _ (h.var x hx).1, ?_⟩⟩
  · rcases List.mem_cons.1 hb with rfl | hb
    · exact ⟨h.below.size, by omega⟩
    · have := h.bnd b hb; exact ⟨this.1, by omega⟩
  · cases hb
    exact ⟨Blk.new wc _ _, by simp, fun x hx he => by have := (h.bnd x.1 (h.var x hx).1).2; omega⟩
  · obtain ⟨s, p, l, c, h1, h2⟩ := (h.var x hx).2
    exact ⟨s, p, l, c, h1.alloc _, hk h2⟩
/-- A store into a variable. -/
theorem Nums.store' {b : Nat} {s : Bool} {p : Option Addr} {l c : Nat} {z : Int} {cs : List Value} (h : Nums w wc raw bs vals vars) (hb : Blk wc b 103 cs) (hlen : cs.length = 2) (hm : b ∈ bs) (hv : (Value.agg #[.bool s, .slice p l c], z) ∈ vals) :
    Nums w ((wc.setCell ⟨b, 0, none⟩ (.bool s)).setCell ⟨b, 1, none⟩ (.slice p l c)) none bs [] ((b, z) :: vars.filter (fun x => x.1 != b)) := by
  have ho : Only (fun k => k = b) wc ((wc.setCell ⟨b, 0, none⟩ (.bool s)).setCell ⟨b, 1, none⟩ (.slice p l c)) := ((Only.refl (fun k => k = b) wc).setCell (p := ⟨b, 0, none⟩) (fun _ => rfl) _).setCell (p := ⟨b, 1, none⟩) (fun _ => rfl) _
  have hge := (h.bnd b hm).1
  have hnb : ∀ k, k ∉ bs → ¬ k = b := fun k hk e => hk (e ▸ hm)
  have hbs := (hb.set 0 (.bool s)).set 1 (.slice p l c)
  have hcs : (cs.set 0 (.bool s)).set 1 (.slice p l c) = [.bool s, .slice p l c] := by
    obtain ⟨a, b', rfl⟩ := list2 hlen
    rfl
  rw [hcs] at hbs
  refine ⟨(h.below.setCell hge _).setCell hge _, fun b' hb' => ⟨(h.bnd b' hb').1, Nat.lt_of_lt_of_le (h.bnd b' hb').2 ho.size⟩, by simp, by simp, fun x hx => ?_⟩
  rcases List.mem_cons.1 hx with rfl | hx
  · exact ⟨hm, s, p, l, c, hbs, (h.val _ hv).only ho hnb⟩
  · obtain ⟨hx1, hx2⟩ := List.mem_filter.1 hx
    have hxb : x.1 ≠ b := by simpa using hx2
    obtain ⟨s', p', l', c', h1, h2⟩ := (h.var x hx1).2
    exact ⟨(h.var x hx1).1, s', p', l', c', h1.only ho hxb, h2.only ho hnb⟩
theorem Nums.store {b : Nat} {s : Bool} {p : Option Addr} {l c : Nat} {z : Int} (h : Nums w wc (some b) bs vals vars) (hv : (Value.agg #[.bool s, .slice p l c], z) ∈ vals) :
    Nums w ((wc.setCell ⟨b, 0, none⟩ (.bool s)).setCell ⟨b, 1, none⟩ (.slice p l c)) none bs [] ((b, z) :: vars) := by
  obtain ⟨h1, h2, h3⟩ := h.raws b rfl
  have h4 := h.store' h1 rfl h2 hv
  have e : vars.filter (fun x => x.1 != b) = vars := List.filter_eq_self.2 fun x hx => by simpa using h3 x hx
  rwa [e] at h4
/-- A variable made with its number. -/
theorem Nums.made {s : Bool} {p : Option Addr} {l c : Nat} {z : Int} (h : Nums w wc raw bs vals vars) (hv : (Value.agg #[.bool s, .slice p l c], z) ∈ vals) :
    Nums w (wc.alloc (.cells #[.bool s, .slice p l c] 103)) none (wc.heap.size :: bs) [] ((wc.heap.size, z) :: vars) := by
  have hsz : (wc.alloc (.cells #[.bool s, .slice p l c] 103)).heap.size = wc.heap.size + 1 := by simp
  have hk : ∀ {v : Value} {z : Int}, IsNum wc (fun k => k ∉ bs) v z → IsNum (wc.alloc (.cells #[.bool s, .slice p l c] 103)) (fun k => k ∉ wc.heap.size :: bs) v z := fun hn =>
    (IsNum.alloc' hn _ (fun k hk => hk)).weak fun k hk hm => by
      rcases List.mem_cons.1 hm with rfl | hm
      · exact hk.2 rfl
      · exact hk.1 hm
  refine ⟨h.below.alloc h.below.size _, fun b hb => ?_, by simp, by simp, fun x hx => ?_⟩
  · rcases List.mem_cons.1 hb with rfl | hb
    · exact ⟨h.below.size, by omega⟩
    · have := h.bnd b hb; exact ⟨this.1, by omega⟩
  · rcases List.mem_cons.1 hx with rfl | hx
    · exact ⟨by simp, s, p, l, c, Blk.new wc _ _, hk (h.val _ hv)⟩
    · obtain ⟨s', p', l', c', h1, h2⟩ := (h.var x hx).2
      exact ⟨List.mem_cons_of_mem _ (h.var x hx).1, s', p', l', c', h1.alloc _, hk h2⟩
theorem Nums.num (h : Nums w wc raw bs vals vars) {v : Value} {z : Int} (hv : (v, z) ∈ vals) : IsNum wc (fun k => k ∉ bs) v z := h.val _ hv
theorem Nums.any (h : Nums w wc raw bs vals vars) {v : Value} {z : Int} (hv : (v, z) ∈ vals) : IsNum wc (fun _ => True) v z := (h.val _ hv).weak fun _ _ => trivial
/-- What a variable reads. -/
theorem Nums.read (h : Nums w wc raw bs vals vars) {b : Nat} {z : Int} (hv : (b, z) ∈ vars) :
    ∃ s p l c, wc.cell? ⟨b, 0, none⟩ = some (.bool s) ∧ wc.cell? ⟨b, 1, none⟩ = some (.slice p l c) ∧ (∀ i, wc.frozen? ⟨b, i, none⟩ = false) ∧ b < wc.heap.size ∧ Blk wc b 103 [.bool s, .slice p l c] ∧ Nums w wc raw bs ((.agg #[.bool s, .slice p l c], z) :: vals) vars := by
  obtain ⟨hm, s, p, l, c, h1, h2⟩ := h.var _ hv
  exact ⟨s, p, l, c, h1.cell 0, h1.cell 1, h1.frozen, h1.lt, h1, h.below, h.bnd, h.raws, fun x hx => by
    rcases List.mem_cons.1 hx with rfl | hx
    · exact h2
    · exact h.val x hx, h.var⟩
theorem Nums.rawc {b : Nat} (h : Nums w wc (some b) bs vals vars) : wc.cell? ⟨b, 0, none⟩ = some (.bool false) ∧ wc.cell? ⟨b, 1, none⟩ = some (.slice none 0 0) ∧ ∀ i, wc.frozen? ⟨b, i, none⟩ = false :=
  ⟨(h.raws b rfl).1.cell 0, (h.raws b rfl).1.cell 1, (h.raws b rfl).1.frozen⟩
theorem Nums.forget (h : Nums w wc raw bs vals vars) : Nums w wc raw bs [] vars := ⟨h.below, h.bnd, h.raws, by simp, h.var⟩
end Go.Proofs.YtlgohkdckdnmhaaDoor
