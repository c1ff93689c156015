/- Contracts of the functions that the statement reaches, one behind the other. No condition beyond each theorem's own. -/
import Derived.ChangeArms
import Derived.Test.YtlgohkdckdnmhaaDoorSF4
/- The law CalcTotals: the acts as they are read. -/
namespace Go.Proofs.YtlgohkdckdnmhaaDoor
open Go.RowKit Go.Afx

structure TAct where
  take : Bool
  lv : Value
  l : List Int
def TAct.cells (a : TAct) : List Value := [.bool a.take, a.lv]
def IsTActs (w : World) (v : Value) (acts : List TAct) : Prop :=
  Sl w (fun _ => True) 2 v acts.length (acts.map TAct.cells).flatten ∧ ∀ a ∈ acts, Sl w (fun _ => True) 1 a.lv a.l.length (ints a.l) ∧ ∀ x ∈ a.l, fits x
theorem IsTActs.below {w w' : World} {v : Value} {acts : List TAct} (h : IsTActs w v acts) (hb : Below w.heap.size w w') : IsTActs w' v acts :=
  ⟨h.1.below hb, fun a ha => ⟨(h.2 a ha).1.below hb, (h.2 a ha).2⟩⟩

theorem tcBool : Tryd.prog.cellsOf 4 = 1 := by kernel_rfl
theorem tcI64 : Tryd.prog.cellsOf 2 = 1 := by kernel_rfl
theorem tcI64s : Tryd.prog.cellsOf 171 = 1 := by kernel_rfl
theorem sl_one' {w : World} {B : Nat → Prop} {sz : Nat} {v : Value} {n : Nat} {cs : List Value} (h : Sl w B sz v n cs) : v.oneCell' = true := by
  obtain ⟨p, cap, rfl, _⟩ := h.form
  rfl

theorem IsTActs.at {w : World} {v : Value} {acts : List TAct} (h : IsTActs w v acts) {k : Nat} (hk : k < acts.length) :
    ∃ g off cap, v = .slice (some ⟨g, off, none⟩) acts.length cap ∧ g < w.heap.size ∧ w.cell? ⟨g, off + k * 2, none⟩ = some (.bool acts[k].take) ∧
      w.cell? ⟨g, off + k * 2 + 1, none⟩ = some acts[k].lv ∧ Sl w (fun _ => True) 1 acts[k].lv acts[k].l.length (ints acts[k].l) ∧ ∀ x ∈ acts[k].l, fits x := by
  obtain ⟨g, off, cap, rfl, _, _, _, hlt, hc⟩ := h.1.place (by omega)
  have hlen : ∀ c ∈ acts.map TAct.cells, c.length = 2 := by
    intro c hcm
    obtain ⟨a, _, rfl⟩ := List.mem_map.1 hcm
    rfl
  have hfl := flatten_length _ hlen
  rw [List.length_map] at hfl
  have get : ∀ r, r < 2 → w.cell? ⟨g, off + (k * 2 + r), none⟩ = acts[k].cells[r]? := fun r hr => by
    rw [hc _ (by omega), flatten_get _ hlen k r hr, List.getElem?_map, List.getElem?_eq_getElem hk]
    rfl
  exact ⟨g, off, cap, rfl, hlt, get 0 (by omega), get 1 (by omega), h.2 _ (List.getElem_mem hk)⟩

/-- The sum and the count behind some acts. -/
def totZ (acts : List TAct) : Int := (acts.map fun a => msum a.take a.l).sum
def totN (acts : List TAct) : Int := (acts.map fun a => if a.take then -(a.l.length : Int) else a.l.length).sum
theorem totZ_next (acts : List TAct) (k : Nat) (h : k < acts.length) : totZ (acts.take (k + 1)) = totZ (acts.take k) + msum acts[k].take acts[k].l := by
  unfold totZ
  rw [← List.take_append_getElem h, List.map_append, List.sum_append]
  simp
theorem totN_next (acts : List TAct) (k : Nat) (h : k < acts.length) : totN (acts.take (k + 1)) = totN (acts.take k) + (if acts[k].take then -(acts[k].l.length : Int) else acts[k].l.length) := by
  unfold totN
  rw [← List.take_append_getElem h, List.map_append, List.sum_append]
  simp
end Go.Proofs.YtlgohkdckdnmhaaDoor
/- The law CalcTotals: what the walk shows. -/
namespace Go.Proofs.YtlgohkdckdnmhaaDoor
open Go.RowKit Go.Afx

theorem boxes2t (w : World) (A C : List Value) (t u : TypeId) :
    Blk ((w.alloc (.cells A.toArray t)).alloc (.cells C.toArray u)) w.heap.size t A ∧
    Blk ((w.alloc (.cells A.toArray t)).alloc (.cells C.toArray u)) (w.heap.size + 1) u C ∧
    Below w.heap.size w ((w.alloc (.cells A.toArray t)).alloc (.cells C.toArray u)) ∧
    ((w.alloc (.cells A.toArray t)).alloc (.cells C.toArray u)).heap.size = w.heap.size + 2 := by
  have h1 := Blk.new w t A
  have h2 := Blk.new (w.alloc (.cells A.toArray t)) u C
  have e1 : (w.alloc (.cells A.toArray t)).heap.size = w.heap.size + 1 := by simp
  rw [e1] at h2
  refine ⟨h1.alloc _, h2, ?_, by simp⟩
  exact ((Below.refl _ _).alloc (Nat.le_refl _) _).alloc (by omega) _

theorem msum_range (minus : Bool) (l : List Int) (hf : ∀ x ∈ l, fits x) (hl : l.length ≤ 20) : -184467440737095516160 ≤ msum minus l ∧ msum minus l ≤ 184467440737095516160 := by
  have h := sum_range l hf
  unfold msum
  split <;> omega

theorem IsNum.drew {w : World} {B : Nat → Prop} {v : Value} {z : Int} (h : IsNum w B v z) : IsNum w.drew B v z := by
  obtain ⟨dv, h1, h2⟩ := h
  exact ⟨dv, h1, h2.drew⟩
theorem near_len {z : Int} {k : Int} (h1 : -184467440737095516160 * k ≤ z) (h2 : z ≤ 184467440737095516160 * k) (hk : k ≤ 31 := by omega) : (ld z.natAbs).length ≤ 5000 := by
  have e : (10 : Nat) ^ 30 = 1000000000000000000000000000000 := by decide
  have h := ld_len_le z.natAbs 30 (by rw [e]; omega)
  omega

end Go.Proofs.YtlgohkdckdnmhaaDoor
/- The document's numbers: Product; the law CalcSums. -/
namespace Go.Proofs.YtlgohkdckdnmhaaDoor
open Go.RowKit Go.Afx

theorem prod_small (l : List Int) (hf : ∀ x ∈ l, fits x) : ∀ k, (prodI (l.take k)).natAbs ≤ 10 ^ (19 * k)
  | 0 => by simp [prodI]
  | k + 1 => by
    have ih := prod_small l hf k
    by_cases h : k < l.length
    · rw [prodI_next l k h, Int.natAbs_mul, Nat.mul_succ, Nat.pow_add]
      exact Nat.mul_le_mul ih (by have := hf l[k] (List.getElem_mem h); unfold fits at this; omega)
    · rw [List.take_of_length_le (by omega)]
      rw [List.take_of_length_le (by omega)] at ih
      exact Nat.le_trans ih (Nat.pow_le_pow_right (by omega) (by omega))
theorem prod_len (l : List Int) (hf : ∀ x ∈ l, fits x) (k : Nat) (hk : k ≤ 100) : (ld (prodI (l.take k)).natAbs).length ≤ 2000 := by
  have h := prod_small l hf k
  have h2 := ld_len_le (prodI (l.take k)).natAbs (19 * k + 1) (by rw [Nat.pow_succ]; have : 0 < 10 ^ (19 * k) := Nat.pow_pos (by omega); omega)
  omega

end Go.Proofs.YtlgohkdckdnmhaaDoor
/- Numbers in temporaries and in variables, beside each other, whatever order their memory is made in. -/
namespace Go.Proofs.YtlgohkdckdnmhaaDoor
open Go.RowKit Go.Afx

/-- raw: a variable just made; bs: the blocks of variables; vals: numbers at hand; vars: numbers that lie in variables. -/
structure Nums (w wc : World) (raw : Option Nat) (bs : List Nat) (vals : List (Value × Int)) (vars : List (Nat × Int)) : Prop where
  below : Below w.heap.size w wc
  bnd : ∀ b ∈ bs, w.heap.size ≤ b ∧ b < wc.heap.size
  raws : ∀ b, raw = some b → Blk wc b 103 [.bool false, .slice none 0 0] ∧ b ∈ bs ∧ ∀ x ∈ vars, x.1 ≠ b
  val : ∀ x ∈ vals, IsNum wc (fun k => k ∉ bs) x.1 x.2
  var : ∀ x ∈ vars, x.1 ∈ bs ∧ ∃ s p l c, Blk wc x.1 103 [.bool s, .slice p l c] ∧ IsNum wc (fun k => k ∉ bs) (.agg #[.bool s, .slice p l c]) x.2

variable {w wc : World} {raw : Option Nat} {bs : List Nat} {vals : List (Value × Int)} {vars : List (Nat × Int)}

theorem Nums.start (w : World) : Nums w w none [] [] [] := ⟨Below.refl _ _, by simp, by simp, by simp, by simp⟩
theorem Nums.drew (h : Nums w wc raw bs vals vars) : Nums w wc.drew raw bs vals vars :=
  ⟨h.below.drew, h.bnd, fun b hb => h.raws b hb, fun x hx => IsNum.drew (h.val x hx), fun x hx => ⟨(h.var x hx).1, by
    obtain ⟨s, p, l, c, h1, h2⟩ := (h.var x hx).2
    exact ⟨s, p, l, c, h1, IsNum.drew h2⟩⟩⟩
theorem Nums.keep {w' : World} (h : Nums w wc raw bs vals vars) (hb : Below wc.heap.size wc w') : Nums w w' raw bs vals vars :=
  ⟨h.below.trans (hb.mono h.below.size), fun b hm => ⟨(h.bnd b hm).1, Nat.lt_of_lt_of_le (h.bnd b hm).2 hb.size⟩, fun b hr => ⟨(h.raws b hr).1.below hb, (h.raws b hr).2⟩,
    fun x hx => (h.val x hx).below hb, fun x hx => ⟨(h.var x hx).1, by
      obtain ⟨s, p, l, c, h1, h2⟩ := (h.var x hx).2
      exact ⟨s, p, l, c, h1.below hb, h2.below hb⟩⟩⟩
/-- A call that answers a new number. -/
theorem Nums.call {w' : World} {v : Value} {z : Int} (h : Nums w wc raw bs vals vars) (hb : Below wc.heap.size wc w') (hn : IsNum w' (fun k => wc.heap.size ≤ k) v z) : Nums w w' raw bs ((v, z) :: vals) vars := by
  have h2 := h.keep hb
  refine ⟨h2.below, h2.bnd, h2.raws, fun x hx => ?_, h2.var⟩
  rcases List.mem_cons.1 hx with rfl | hx
  · exact hn.weak fun k hk hm => by have := (h.bnd k hm).2; omega
  · exact h2.val x hx
/-- A call that answers a number of the old digits. -/
theorem Nums.call' {w' : World} {v : Value} {z : Int} (h : Nums w wc raw bs vals vars) (hb : Below wc.heap.size wc w') (hn : IsNum w' (fun k => k ∉ bs) v z) : Nums w w' raw bs ((v, z) :: vals) vars := by
  have h2 := h.keep hb
  refine ⟨h2.below, h2.bnd, h2.raws, fun x hx => ?_, h2.var⟩
  rcases List.mem_cons.1 hx with rfl | hx
  · exact hn
  · exact h2.val x hx
theorem Nums.alloc (h : Nums w wc raw bs vals vars) : Nums w (wc.alloc (.cells #[.bool false, .slice none 0 0] 103)) (some wc.heap.size) (wc.heap.size :: bs) vals vars := by
  have hsz : (wc.alloc (.cells #[.bool false, .slice none 0 0] 103)).heap.size = wc.heap.size + 1 := by simp
  have hk : ∀ {v : Value} {z : Int}, IsNum wc (fun k => k ∉ bs) v z → IsNum (wc.alloc (.cells #[.bool false, .slice none 0 0] 103)) (fun k => k ∉ wc.heap.size :: bs) v z := fun hn =>
    (IsNum.alloc' hn _ (fun k hk => hk)).weak fun k hk hm => by
      rcases List.mem_cons.1 hm with rfl | hm
      · exact hk.2 rfl
      · exact hk.1 hm
  refine ⟨h.below.alloc h.below.size _, fun b hb => ?_, fun b hb => ?_, fun x hx => hk (h.val x hx), fun x hx => ⟨List.mem_cons_of_mem _ (h.var x hx).1, ?_⟩⟩
  · rcases List.mem_cons.1 hb with rfl | hb
    · exact ⟨h.below.size, by omega⟩
    · have := h.bnd b hb; exact ⟨this.1, by omega⟩
  · cases hb
    exact ⟨Blk.new wc _ _, by simp, fun x hx he => by have := (h.bnd x.1 (h.var x hx).1).2; omega⟩
  · obtain ⟨s, p, l, c, h1, h2⟩ := (h.var x hx).2
    exact ⟨s, p, l, c, h1.alloc _, hk h2⟩
/-- A store into a variable. -/
theorem Nums.store' {b : Nat} {s : Bool} {p : Option Addr} {l c : Nat} {z : Int} {cs : List Value} (h : Nums w wc raw bs vals vars) (hb : Blk wc b 103 cs) (hlen : cs.length = 2) (hm : b ∈ bs) (hv : (Value.agg #[.bool s, .slice p l c], z) ∈ vals) :
    Nums w ((wc.setCell ⟨b, 0, none⟩ (.bool s)).setCell ⟨b, 1, none⟩ (.slice p l c)) none bs [] ((b, z) :: vars.filter (fun x => x.1 != b)) := by
  have ho : Only (fun k => k = b) wc ((wc.setCell ⟨b, 0, none⟩ (.bool s)).setCell ⟨b, 1, none⟩ (.slice p l c)) := ((Only.refl (fun k => k = b) wc).setCell (p := ⟨b, 0, none⟩) (fun _ => rfl) _).setCell (p := ⟨b, 1, none⟩) (fun _ => rfl) _
  have hge := (h.bnd b hm).1
  have hnb : ∀ k, k ∉ bs → ¬ k = b := fun k hk e => hk (e ▸ hm)
  have hbs := (hb.set 0 (.bool s)).set 1 (.slice p l c)
  have hcs : (cs.set 0 (.bool s)).set 1 (.slice p l c) = [.bool s, .slice p l c] := by
    obtain ⟨a, b', rfl⟩ := list2 hlen
    rfl
  rw [hcs] at hbs
  refine ⟨(h.below.setCell hge _).setCell hge _, fun b' hb' => ⟨(h.bnd b' hb').1, Nat.lt_of_lt_of_le (h.bnd b' hb').2 ho.size⟩, by simp, by simp, fun x hx => ?_⟩
  rcases List.mem_cons.1 hx with rfl | hx
  · exact ⟨hm, s, p, l, c, hbs, (h.val _ hv).only ho hnb⟩
  · obtain ⟨hx1, hx2⟩ := List.mem_filter.1 hx
    have hxb : x.1 ≠ b := by simpa using hx2
    obtain ⟨s', p', l', c', h1, h2⟩ := (h.var x hx1).2
    exact ⟨(h.var x hx1).1, s', p', l', c', h1.only ho hxb, h2.only ho hnb⟩
theorem Nums.store {b : Nat} {s : Bool} {p : Option Addr} {l c : Nat} {z : Int} (h : Nums w wc (some b) bs vals vars) (hv : (Value.agg #[.bool s, .slice p l c], z) ∈ vals) :
    Nums w ((wc.setCell ⟨b, 0, none⟩ (.bool s)).setCell ⟨b, 1, none⟩ (.slice p l c)) none bs [] ((b, z) :: vars) := by
  obtain ⟨h1, h2, h3⟩ := h.raws b rfl
  have h4 := h.store' h1 rfl h2 hv
  have e : vars.filter (fun x => x.1 != b) = vars := List.filter_eq_self.2 fun x hx => by simpa using h3 x hx
  rwa [e] at h4
/-- A variable made with its number. -/
theorem Nums.made {s : Bool} {p : Option Addr} {l c : Nat} {z : Int} (h : Nums w wc raw bs vals vars) (hv : (Value.agg #[.bool s, .slice p l c], z) ∈ vals) :
    Nums w (wc.alloc (.cells #[.bool s, .slice p l c] 103)) none (wc.heap.size :: bs) [] ((wc.heap.size, z) :: vars) := by
  have hsz : (wc.alloc (.cells #[.bool s, .slice p l c] 103)).heap.size = wc.heap.size + 1 := by simp
  have hk : ∀ {v : Value} {z : Int}, IsNum wc (fun k => k ∉ bs) v z → IsNum (wc.alloc (.cells #[.bool s, .slice p l c] 103)) (fun k => k ∉ wc.heap.size :: bs) v z := fun hn =>
    (IsNum.alloc' hn _ (fun k hk => hk)).weak fun k hk hm => by
      rcases List.mem_cons.1 hm with rfl | hm
      · exact hk.2 rfl
      · exact hk.1 hm
  refine ⟨h.below.alloc h.below.size _, fun b hb => ?_, by simp, by simp, fun x hx => ?_⟩
  · rcases List.mem_cons.1 hb with rfl | hb
    · exact ⟨h.below.size, by omega⟩
    · have := h.bnd b hb; exact ⟨this.1, by omega⟩
  · rcases List.mem_cons.1 hx with rfl | hx
    · exact ⟨by simp, s, p, l, c, Blk.new wc _ _, hk (h.val _ hv)⟩
    · obtain ⟨s', p', l', c', h1, h2⟩ := (h.var x hx).2
      exact ⟨List.mem_cons_of_mem _ (h.var x hx).1, s', p', l', c', h1.alloc _, hk h2⟩
theorem Nums.num (h : Nums w wc raw bs vals vars) {v : Value} {z : Int} (hv : (v, z) ∈ vals) : IsNum wc (fun k => k ∉ bs) v z := h.val _ hv
theorem Nums.any (h : Nums w wc raw bs vals vars) {v : Value} {z : Int} (hv : (v, z) ∈ vals) : IsNum wc (fun _ => True) v z := (h.val _ hv).weak fun _ _ => trivial
/-- What a variable reads. -/
theorem Nums.read (h : Nums w wc raw bs vals vars) {b : Nat} {z : Int} (hv : (b, z) ∈ vars) :
    ∃ s p l c, wc.cell? ⟨b, 0, none⟩ = some (.bool s) ∧ wc.cell? ⟨b, 1, none⟩ = some (.slice p l c) ∧ (∀ i, wc.frozen? ⟨b, i, none⟩ = false) ∧ b < wc.heap.size ∧ Blk wc b 103 [.bool s, .slice p l c] ∧ Nums w wc raw bs ((.agg #[.bool s, .slice p l c], z) :: vals) vars := by
  obtain ⟨hm, s, p, l, c, h1, h2⟩ := h.var _ hv
  exact ⟨s, p, l, c, h1.cell 0, h1.cell 1, h1.frozen, h1.lt, h1, h.below, h.bnd, h.raws, fun x hx => by
    rcases List.mem_cons.1 hx with rfl | hx
    · exact h2
    · exact h.val x hx, h.var⟩
theorem Nums.rawc {b : Nat} (h : Nums w wc (some b) bs vals vars) : wc.cell? ⟨b, 0, none⟩ = some (.bool false) ∧ wc.cell? ⟨b, 1, none⟩ = some (.slice none 0 0) ∧ ∀ i, wc.frozen? ⟨b, i, none⟩ = false :=
  ⟨(h.raws b rfl).1.cell 0, (h.raws b rfl).1.cell 1, (h.raws b rfl).1.frozen⟩
theorem Nums.forget (h : Nums w wc raw bs vals vars) : Nums w wc raw bs [] vars := ⟨h.below, h.bnd, h.raws, by simp, h.var⟩
end Go.Proofs.YtlgohkdckdnmhaaDoor
/- The document's Spread. -/
namespace Go.Proofs.YtlgohkdckdnmhaaDoor
open Go.RowKit Go.Afx

theorem mdN_nat (z : Int) (M : Nat) (h : 0 < M) : mdN z M = if z < 0 ∧ 0 < z.natAbs % M then (M : Int) - (z.natAbs % M : Nat) else ((z.natAbs % M : Nat) : Int) := by
  have h0 : (M : Int) ≠ 0 := by omega
  have h1 : (M : Int) ≠ -1 := by omega
  have e : mdN z M = z % (M : Int) := by
    unfold mdN
    rw [if_neg h0, if_neg h1, Int.fmod_eq_emod_of_nonneg _ (by omega)]
  rw [e]
  generalize hq : z.natAbs / M = q
  generalize hr : z.natAbs % M = r
  have hd : (z.natAbs : Int) = (r : Int) + (M : Int) * (q : Int) := by
    have h2 := Nat.mod_add_div z.natAbs M
    rw [hq, hr] at h2
    rw [← Int.natCast_mul]
    omega
  have hrl : r < M := by rw [← hr]; exact Nat.mod_lt _ h
  by_cases hz : z < 0
  · by_cases hr0 : 0 < r
    · rw [if_pos ⟨hz, hr0⟩]
      have : z = ((M : Int) - (r : Int)) + (M : Int) * (-(q : Int) - 1) := by rw [Int.mul_sub, Int.mul_neg]; omega
      rw [this, Int.add_mul_emod_self_left, Int.emod_eq_of_lt (by omega) (by omega)]
    · rw [if_neg (fun h => hr0 h.2)]
      obtain rfl : r = 0 := by omega
      have : z = (M : Int) * (-(q : Int)) := by rw [Int.mul_neg]; omega
      rw [this, Int.mul_emod_right]
      rfl
  · rw [if_neg (fun h => hz h.1)]
    have : z = (r : Int) + (M : Int) * (q : Int) := by omega
    rw [this, Int.add_mul_emod_self_left, Int.emod_eq_of_lt (by omega) (by omega)]
def spZ (k n : Int) (l : List UInt8) (j : Nat) : Int := if k = 2 then n + (sprN l j : Int) else n
theorem drop_step (d : List Nat) (i M : Nat) (h : i < d.length) : (10 * (vd (d.drop (i + 1)) % M) + d[i]) % M = vd (d.drop i) % M := by
  rw [vd_drop d i h, Nat.add_comm d[i], Nat.add_mod (10 * _), Nat.mul_mod 10, Nat.mod_mod, ← Nat.mul_mod, ← Nat.add_mod]

set_option maxRecDepth 100000 in
set_option maxHeartbeats 4000000 in
theorem refspread_any (w : World) (k n : Int) (s : ByteArray) (M : Nat) (hM1 : 0 < M) (hM2 : M ≤ 1000000) (hn : fits n) (hk : k = 2 → n = 0) (hs : s.size ≤ 300) :
    Calls Tryd.prog 39 #[.agg #[.int .i64 k, .int .i64 n, .string s], .int .i64 (M : Int)] w fun e w' => e = .returned (.int .i64 (mdN (spT k n s) M)) ∧ Below w.heap.size w w' := by
  obtain ⟨l, hl⟩ : ∃ l, s.data.toList = l := ⟨_, rfl⟩
  have hsz := size_list s l hl
  have HG := Lib.hid (get_list s l hl)
  have hspz : spT k n s = spZ k n l s.size := by unfold spT spZ; rw [hl]
  have hz0 : spZ k n l 0 = n := by unfold spZ sprN; simp
  have hfz : ∀ j, j ≤ l.length → fits (spZ k n l j) := fun j hj => by
    have := sprN_le l j hj (by omega)
    unfold spZ fits at *
    split
    · rename_i h; have := hk h; omega
    · exact hn
  have HFZ := Lib.hid hfz
  have HNX := Lib.hid (sprN_next l)
  have HOF0 := Lib.hid (fun w => of_num w n hn)
  have HZ0 := Lib.hid hz0
  have HSPZ := Lib.hid hspz
  obtain ⟨out, hout⟩ : ∃ o, mdN (spT k n s) M = o := ⟨_, rfl⟩
  have HOUT := Lib.hid hout
  rw [hout]
  clear hfz hz0 hspz hout hl hn hk
  obtain ⟨b0, b1, b2, bf⟩ := blk3 (Blk.new w 27 [.int .i64 k, .int .i64 n, .string s])
  have hb1 : Below w.heap.size w (w.alloc (.cells #[.int .i64 k, .int .i64 n, .string s] 27)) := (Below.refl _ _).alloc (Nat.le_refl _) _
  have HB1 := Lib.hid hb1
  have HBX := Lib.hid (Blk.new w 27 [.int .i64 k, .int .i64 n, .string s])
  have hs1 : (w.alloc (.cells #[.int .i64 k, .int .i64 n, .string s] 27)).heap.size = w.heap.size + 1 := by simp
  have HS1 := Lib.hid hs1
  clear hb1 hs1
  go_enter Tryd.func39, Tryd.ntmps39
  go_wp2_with fail
  refine (HOF0.out _).mono ?_
  rintro e w2 ⟨v2, rfl, hn2, hb2⟩
  obtain ⟨s2, p2, n2, c2, rfl⟩ := hn2.parts
  have hs2 : w.heap.size + 1 ≤ w2.heap.size := by have := hb2.size; have := HS1.out; omega
  have HN3 : Hid (IsNum (w2.alloc (.cells #[.bool s2, .slice p2 n2 c2] 103)) (fun k => w.heap.size < k ∧ k ≠ w2.heap.size) (.agg #[.bool s2, .slice p2 n2 c2]) n) := IsNum.alloc' hn2 _ (fun k (h1 : _ < k) => by have := HS1.out; omega)
  have HX3 : Hid (Blk (w2.alloc (.cells #[.bool s2, .slice p2 n2 c2] 103)) w.heap.size 27 [.int .i64 k, .int .i64 n, .string s]) := (HBX.out.below hb2).alloc _
  have HV3 : Hid (Blk (w2.alloc (.cells #[.bool s2, .slice p2 n2 c2] 103)) w2.heap.size 103 [.bool s2, .slice p2 n2 c2]) := Blk.new w2 _ _
  have HB3 : Hid (Below w.heap.size w (w2.alloc (.cells #[.bool s2, .slice p2 n2 c2] 103))) := by
    have h1 := HB1.out.trans (hb2.mono HB1.out.size)
    exact h1.alloc h1.size _
  have HZ3 : Hid (w2.heap.size < (w2.alloc (.cells #[.bool s2, .slice p2 n2 c2] 103)).heap.size) := by show _ < _; simp
  clear hn2 hb2 b0 b1 b2 bf
  go_wp2
  generalize (w2.alloc (.cells #[.bool s2, .slice p2 n2 c2] 103)) = w3 at *
  generalize w2.heap.size = bn at *
  go_loopw [6] (fun i wr => ∃ (j : Nat) (sg : Bool) (q : Option Addr) (l0 c0 : Nat), i = .int .i64 j ∧ j ≤ s.size ∧ Blk wr bn 103 [.bool sg, .slice q l0 c0] ∧ IsNum wr (fun x => w.heap.size < x ∧ x ≠ bn) (.agg #[.bool sg, .slice q l0 c0]) (spZ k n l j) ∧ Blk wr w.heap.size 27 [.int .i64 k, .int .i64 n, .string s] ∧ Below w.heap.size w wr ∧ bn < wr.heap.size) (fun i _ => s.size - (intOf i).toNat)
  case atStart => exact ⟨0, s2, p2, n2, c2, rfl, Nat.zero_le _, HV3.out, by rw [HZ0.out]; exact HN3.out, HX3.out, HB3.out, HZ3.out⟩
  case round =>
    obtain ⟨j, sg, q, l0, c0, rfl, hj, hbn, hnum, hbx, hbw, hlt⟩ := hrel
    have HBN := Lib.hid hbn
    have HBXr := Lib.hid hbx
    have HNUM := Lib.hid hnum
    have HBW := Lib.hid hbw
    obtain ⟨x0, x1, x2, xf⟩ := blk3 hbx
    have y0 : wr.cell? ⟨bn, 0, none⟩ = some (.bool sg) := hbn.cell 0
    have y1 : wr.cell? ⟨bn, 1, none⟩ = some (.slice q l0 c0) := hbn.cell 1
    clear hbn hnum hbx hbw
    by_cases hbody : j < s.size ∧ k = 2
    · obtain ⟨hja, rfl⟩ := hbody
      have hjl : j < l.length := by omega
      obtain ⟨c, hc⟩ : ∃ c, (s[j]'hja).toNat = c := ⟨_, rfl⟩
      have hc2 : l[j].toNat = c := by rw [← HG.out j hja hjl]; exact hc
      have hcl : c < 256 := by rw [← hc]; exact (s[j]'hja).toNat_lt
      have hnx := HNX.out j hjl
      have hpl := prod_le j l[j] (by omega)
      rw [hc2] at hnx hpl
      have hci : ((s[j]'hja).toNat : Int) = (c : Int) := by rw [hc]
      have hcp : ((j : Int) + 1) * (c : Int) = (((j + 1) * c : Nat) : Int) := by rw [Int.natCast_mul]; rfl
      have hwr : IntKind.i64.wrap (c : Int) = (c : Int) := by rw [IntKind.wrap_i64]; omega
      generalize (j + 1) * c = pr at *
      have hsp : spZ 2 n l (j + 1) = spZ 2 n l j + (pr : Int) := by unfold spZ; rw [if_pos rfl, if_pos rfl, hnx]; omega
      have HSP := Lib.hid hsp
      have hfp : fits (pr : Int) := by unfold fits; omega
      have HOF := Lib.hid (fun w => of_num w (pr : Int) hfp)
      have h30a := fits_small (HFZ.out j (by omega))
      have h30b := fits_small hfp
      have H30 : Hid ((ld (spZ 2 n l j).natAbs).length ≤ 30 ∧ (ld (pr : Int).natAbs).length ≤ 30) := ⟨h30a, h30b⟩
      clear hc hc2 hnx hsp hfp h30a h30b
      have hxl : w.heap.size < wr.heap.size := by have := HBXr.out.lt; exact this
      have hag : Hid (∀ w2, Below wr.heap.size wr.drew w2 → Agree (fun q => q = w.heap.size ∨ q = bn) wr.drew w2) := fun w2 h q o hq => h.cell (by rcases hq with rfl | rfl <;> assumption)
      have j1 : (j : Int) < (s.size : Int) := by omega
      go_wp2_with fail
      refine wp_region_lit_plan [] [(1, 0), (2, 0), (3, 0), (5, 0), (0, 2), (4, 1), (6, 0), (7, 0), (8, 0), (9, 3), (10, 4), (11, 4)] (fun q => q = w.heap.size ∨ q = bn) (by kernel_rfl) (by kernel_rfl) (fun c a d v w h => by cases d <;> exact h) ?_
      go_wp2_with (first
        | (refine plan_pure (v := _) (by rfl) (by rfl) (by rfl) (by intro _; go_simp; with_reducible rfl) ?_; simp only [List.setIfInBounds_toArray, List.set_cons_zero, List.set_cons_succ]; try go_bits) | (refine plan_read (v := _) (by rfl) (by rfl) (by rfl) (by go_simp; with_reducible rfl) ?_; simp only [List.setIfInBounds_toArray, List.set_cons_zero, List.set_cons_succ]; try go_bits) | (refine plan_readB (v := _) (by rfl) (by rfl) (by rfl) (by intro _ hag; unfold Agree at hag; go_simp; with_reducible rfl) ?_; simp only [List.setIfInBounds_toArray, List.set_cons_zero, List.set_cons_succ]; try go_bits) | (refine plan_skip0 (by rfl) (by rfl) (by rfl) ?_; simp only [List.setIfInBounds_toArray, List.set_cons_zero, List.set_cons_succ]; try go_bits) | (refine plan_skip1 (by rfl) (by rfl) (by rfl) ?_; simp only [List.setIfInBounds_toArray, List.set_cons_zero, List.set_cons_succ]; try go_bits) | (refine plan_skip2 (by rfl) (by rfl) (by rfl) ?_; simp only [List.setIfInBounds_toArray, List.set_cons_zero, List.set_cons_succ]; try go_bits) | (refine plan_skip4 (by rfl) (by rfl) (by rfl) ?_; simp only [List.setIfInBounds_toArray, List.set_cons_zero, List.set_cons_succ]; try go_bits) | (refine plan_any (by rfl) ?_) | (refine plan_keep (by rfl) ?_) | (refine plan_nil ?_) | (with_reducible refine And.intro (by first | assumption | exact Agree.refl _ _ | exact agree_drew _ _ | exact agree_alloc _ (by intro k hk; subst hk; first | omega | (simp; omega))) ?_) | (unfold Act.put; simp only [List.setIfInBounds_toArray, List.set_cons_zero, List.set_cons_succ])
        | (go_at_call 75; refine (HOF.out _).mono ?_; clear HOF; rintro e w4 ⟨v4, rfl, hn4, hb4⟩; have hag4 := hag.out _ hb4; have HB4 := Lib.hid hb4; have HN4 := Lib.hid hn4; clear hb4 hn4)
        | (go_at_call 76; refine (plus_num _ _ _ _ _ ((IsNum.below (w := wr.drew) (IsNum.drew HNUM.out) HB4.out).weak fun _ _ => trivial) (HN4.out.weak fun _ _ => trivial) (by have := H30.out.1; omega) (by have := H30.out.2; omega)).mono ?_; rintro e w6 ⟨v6, rfl, hn6, hb6⟩; obtain ⟨s6, p6, n6, c6, rfl⟩ := hn6.parts; have hbn6 := Blk.below (Blk.below (w := wr.drew) HBN.out HB4.out) hb6; have u10 : w6.cell? ⟨bn, 0, none⟩ = some (.bool sg) := hbn6.cell 0; have u11 : w6.cell? ⟨bn, 1, none⟩ = some (.slice q l0 c0) := hbn6.cell 1; have uf : ∀ i, w6.frozen? ⟨bn, i, none⟩ = false := hbn6.frozen; have HBN6 := Lib.hid hbn6; have HBX6 := Lib.hid (Blk.below (Blk.below (w := wr.drew) HBXr.out HB4.out) hb6); have HN6 := Lib.hid hn6; have HB6 := Lib.hid hb6; clear hn6 hb6 hbn6))
      have ho7 : Only (fun k => k = bn) w6 ((w6.setCell ⟨bn, 0, none⟩ (.bool s6)).setCell ⟨bn, 1, none⟩ (.slice p6 n6 c6)) := ((Only.refl (fun k => k = bn) w6).setCell (p := ⟨bn, 0, none⟩) (fun _ => rfl) _).setCell (p := ⟨bn, 1, none⟩) (fun _ => rfl) _
      have h4 : wr.heap.size ≤ w4.heap.size := HB4.out.size
      have h6 := HB6.out.size
      have h7 := ho7.size
      have k4 := HBW.out.drew.trans (HB4.out.mono HBW.out.size)
      have k6 := k4.trans (HB6.out.mono k4.size)
      refine ⟨⟨j + 1, s6, p6, n6, c6, by go_num, by omega, (HBN6.out.set 0 _).set 1 _, ?_, HBX6.out.only ho7 (by omega), (k6.setCell (by show w.heap.size ≤ bn; omega) _).setCell (by show w.heap.size ≤ bn; omega) _, by omega⟩, by (simp [intOf]) <;> omega⟩
      rw [HSP.out]
      exact IsNum.weak (IsNum.only HN6.out ho7 (fun k (h1 : w4.heap.size ≤ k) h2 => by omega)) (fun k (h1 : w4.heap.size ≤ k) => by omega)
    · have hzz : spZ k n l j = spT k n s := by
        rw [HSPZ.out]
        by_cases hk2 : k = 2
        · have : j = s.size := by omega
          rw [this]
        · unfold spZ; rw [if_neg hk2, if_neg hk2]
      have hnum := HNUM.out
      have hl30 := fits_small (HFZ.out j (by omega))
      have hout := HOUT.out
      rw [hzz] at hnum hl30
      rw [mdN_nat _ M hM1] at hout
      obtain ⟨wo, rfl⟩ : ∃ wo : World, wo = wr := ⟨_, rfl⟩
      clear HNUM HFZ HZ0 HNX HSPZ hzz HOUT HOF0 HB1 HBX HS1
      generalize spT k n s = z at *
      obtain ⟨dv, hv, hsl⟩ := hnum
      cases hv
      obtain ⟨p', cap', he, hc1, hc2⟩ := hsl.form
      cases he
      have HSL := Lib.hid hsl
      have hD := ld_D10 z.natAbs
      rw [← vd_ld z.natAbs] at hout
      generalize hneg : decide (z < 0) = neg at *
      have hout2 : out = if neg = true ∧ 0 < vd (ld z.natAbs) % M then (M : Int) - (vd (ld z.natAbs) % M : Nat) else ((vd (ld z.natAbs) % M : Nat) : Int) := by
        rw [← hout, ← hneg]
        simp only [decide_eq_true_eq]
      clear hout hneg hsl
      have HOUT2 := Lib.hid hout2
      clear hout2
      generalize ld z.natAbs = d at *
      by_cases hjs : j < s.size
      · have hz2 : (k == 2) = false := by rw [beq_eq_false_iff_ne]; exact fun h => hbody ⟨hjs, h⟩
        have j1 : (j : Int) < (s.size : Int) := by omega
        clear hbody
        go_wp2
        go_loopw [7, 8] (fun left i wx => ∃ (t : Nat) (i0 : Int), i = .int .i64 i0 ∧ i0 = (t : Int) - 1 ∧ t ≤ d.length ∧ left = .int .i64 ((vd (d.drop t) % M : Nat) : Int) ∧ wx = wo) (fun _ i _ => (intOf i + 1).toNat)
        case atStart => exact ⟨d.length, _, rfl, rfl, Nat.le_refl _, by rw [List.drop_length]; simp [vd], rfl⟩
        case round =>
          obtain ⟨t, i0, rfl, hi0, ht, rfl, rfl⟩ := hrel
          have hlt2 : vd (d.drop t) % M < M := Nat.mod_lt _ hM1
          cases t with
          | zero =>
            obtain rfl : i0 = -1 := by omega
            rw [List.drop_zero] at *
            have ho := HOUT2.out
            have HOUT3 := Lib.hid ho
            clear hD hi0 ht ho
            generalize vd d % M = A at *
            cases neg
            · go_wp2
              go_ret
              exact ⟨by rw [HOUT3.out]; simp, HBW.out⟩
            · by_cases hA : 0 < A
              · have hA2 : (0 : Int) < (A : Int) := by omega
                go_wp2
                go_ret
                exact ⟨by rw [HOUT3.out]; simp [hA], HBW.out⟩
              · obtain rfl : A = 0 := by omega
                go_wp2
                go_ret
                exact ⟨by rw [HOUT3.out]; simp, HBW.out⟩
          | succ t =>
            obtain rfl : i0 = (t : Int) := by omega
            have hst := drop_step d t M (by omega)
            obtain ⟨g, off, cap2, hv2, hg2, hcell⟩ := sl_nat HSL.out (show t < d.length by omega)
            cases hv2
            have hb10 : d[t] < 10 := hD _ (List.getElem_mem _)
            have HR2 := Lib.hid (show vd (d.drop t) % M < M from Nat.mod_lt _ hM1)
            generalize hrr : vd (d.drop t) % M = r at *
            have HRR := Lib.hid hrr
            generalize vd (d.drop (t + 1)) % M = a at *
            generalize d[t] = b at *
            have hr2 := HR2.out
            have htm : (10 * (a : Int) + (b : Int)).tmod (M : Int) = (r : Int) := by
              have h1 : 10 * (a : Int) + (b : Int) = ((10 * a + b : Nat) : Int) := by omega
              rw [h1, ← hst, Int.ofNat_tmod]
            have hM3 : ((M : Int) == 0) = false := by rw [beq_eq_false_iff_ne]; omega
            have hM4 : (M : Int) ≠ 0 := by omega
            clear hst hrr hi0
            go_wp2
            refine ⟨⟨t, _, rfl, rfl, by omega, by rw [HRR.out], trivial⟩, by (simp [intOf]) <;> omega⟩
      · have j1 : ¬ (j : Int) < (s.size : Int) := by omega
        clear hbody
        go_wp2
        go_loopw [7, 8] (fun left i wx => ∃ (t : Nat) (i0 : Int), i = .int .i64 i0 ∧ i0 = (t : Int) - 1 ∧ t ≤ d.length ∧ left = .int .i64 ((vd (d.drop t) % M : Nat) : Int) ∧ wx = wo) (fun _ i _ => (intOf i + 1).toNat)
        case atStart => exact ⟨d.length, _, rfl, rfl, Nat.le_refl _, by rw [List.drop_length]; simp [vd], rfl⟩
        case round =>
          obtain ⟨t, i0, rfl, hi0, ht, rfl, rfl⟩ := hrel
          have hlt2 : vd (d.drop t) % M < M := Nat.mod_lt _ hM1
          cases t with
          | zero =>
            obtain rfl : i0 = -1 := by omega
            rw [List.drop_zero] at *
            have ho := HOUT2.out
            have HOUT3 := Lib.hid ho
            clear hD hi0 ht ho
            generalize vd d % M = A at *
            cases neg
            · go_wp2
              go_ret
              exact ⟨by rw [HOUT3.out]; simp, HBW.out⟩
            · by_cases hA : 0 < A
              · have hA2 : (0 : Int) < (A : Int) := by omega
                go_wp2
                go_ret
                exact ⟨by rw [HOUT3.out]; simp [hA], HBW.out⟩
              · obtain rfl : A = 0 := by omega
                go_wp2
                go_ret
                exact ⟨by rw [HOUT3.out]; simp, HBW.out⟩
          | succ t =>
            obtain rfl : i0 = (t : Int) := by omega
            have hst := drop_step d t M (by omega)
            obtain ⟨g, off, cap2, hv2, hg2, hcell⟩ := sl_nat HSL.out (show t < d.length by omega)
            cases hv2
            have hb10 : d[t] < 10 := hD _ (List.getElem_mem _)
            have HR2 := Lib.hid (show vd (d.drop t) % M < M from Nat.mod_lt _ hM1)
            generalize hrr : vd (d.drop t) % M = r at *
            have HRR := Lib.hid hrr
            generalize vd (d.drop (t + 1)) % M = a at *
            generalize d[t] = b at *
            have hr2 := HR2.out
            have htm : (10 * (a : Int) + (b : Int)).tmod (M : Int) = (r : Int) := by
              have h1 : 10 * (a : Int) + (b : Int) = ((10 * a + b : Nat) : Int) := by omega
              rw [h1, ← hst, Int.ofNat_tmod]
            have hM3 : ((M : Int) == 0) = false := by rw [beq_eq_false_iff_ne]; omega
            have hM4 : (M : Int) ≠ 0 := by omega
            clear hst hrr hi0
            go_wp2
            refine ⟨⟨t, _, rfl, rfl, by omega, by rw [HRR.out], trivial⟩, by (simp [intOf]) <;> omega⟩
end Go.Proofs.YtlgohkdckdnmhaaDoor
/- How numbers, texts, values and rows that came in are read. -/
namespace Go.Proofs.YtlgohkdckdnmhaaDoor
open Go.RowKit Go.Afx

theorem wf_fit64 {n : Int} (h : (Lit.int .i64 n).wf = true) : fit64 n := by
  have h2 : -9223372036854775808 ≤ n ∧ n ≤ 9223372036854775807 := by simpa [Lit.wf, IntKind.min, IntKind.max, IntKind.bits, IntKind.signed] using h
  exact h2
theorem ocInt : Tryd.prog.cellsOf 3 = 1 := by kernel_rfl
theorem ocI64 : Tryd.prog.cellsOf 2 = 1 := by kernel_rfl
theorem ocStr : Tryd.prog.cellsOf 9 = 1 := by kernel_rfl
theorem ocVal : Tryd.prog.cellsOf 27 = 3 := by kernel_rfl
theorem ocRow : Tryd.prog.cellsOf 22 = 1 := by kernel_rfl

section
variable {H : Type} {enc : TypeId × Value → H} {w : World}
theorem open_ints {v : Value} {d : DataW H} {ps : List MemPlace} (h : DataW.Trod enc Tryd.prog w 0 (fun _ => true) true 40 v d ps) (hv : v.cells.toList = [v]) :
    ∃ l : List Int, Sl w (fun _ => True) 1 v l.length (ints l) ∧ ∀ n ∈ l, fit64 n := by
  obtain ⟨fuel, hf⟩ := h
  rw [hv] at hf
  obtain ⟨l, h1, h2⟩ := open_ints_sl Tryd.underlying40 Tryd.underlying3 ocInt hf
  exact ⟨l, h1, fun n hn => wf_fit64 (h2 n hn)⟩
theorem flat_one {α : Type} (f : α → Value) (l : List α) : (l.map fun x => [f x]).flatten = l.map f := by
  induction l with
  | nil => rfl
  | cons a l ih => simp [ih]
/-- A value's reading. -/
def AV.read (a : AV) : Prop := fit64 a.kind ∧ fit64 a.n ∧ a.s.size ≤ maxLen
theorem open_av {fuel : Nat} {c : List Value} {y : DataW H × List MemPlace} (hl : c.length = 3) (hy : DataW.trod enc Tryd.prog w 0 (fun _ => true) true fuel 27 c = some y) : ∃ a : AV, c = a.cells ∧ a.read := by
  obtain ⟨n, hfs⟩ := open_fields Tryd.underlying27 hy
  obtain ⟨c0, c1, c2, rfl⟩ := list3 hl
  obtain ⟨y0, h0⟩ := hfs 0 _ rfl
  obtain ⟨y1, h1⟩ := hfs 1 _ rfl
  obtain ⟨y2, h2⟩ := hfs 2 _ rfl
  simp only [ocInt, ocI64, ocStr, List.drop_zero, List.drop_succ_cons, List.take_succ_cons, List.take_zero] at h0 h1 h2
  obtain ⟨k, e0, _, w0⟩ := DataW.trod_int Tryd.underlying3 h0
  obtain ⟨m, e1, _, w1⟩ := DataW.trod_int Tryd.underlying2 h1
  obtain ⟨s, e2, _, w2⟩ := DataW.trod_string Tryd.underlying9 h2
  simp only [List.cons.injEq, and_true] at e0 e1 e2
  subst e0 e1 e2
  exact ⟨⟨k, m, s⟩, rfl, wf_fit64 w0, wf_fit64 w1, w2⟩
theorem av_ones (a : AV) : Ones a.cells := by
  intro u hu
  simp [AV.cells] at hu
  rcases hu with rfl | rfl | rfl <;> rfl
theorem open_row_at {fuel : Nat} {v : Value} {y : DataW H × List MemPlace} (hf : DataW.trod enc Tryd.prog w 0 (fun _ => true) true fuel 22 [v] = some y) : ∃ l : List AV, Sl w (fun _ => True) 3 v l.length (rowCells l) ∧ ∀ a ∈ l, a.read := by
  obtain ⟨es, h1, h2⟩ := open_sl Tryd.underlying22 ocVal (by omega) hf (fun c => ∃ a : AV, c = a.cells ∧ a.read) (fun c ⟨a, hc, _⟩ => by subst hc; exact av_ones a) (fun f c y hl hy => open_av hl hy)
  obtain ⟨l, rfl, h4⟩ := choose_list es (fun c hcm => (h1 c hcm).2)
  rw [List.length_map] at h2
  exact ⟨l, h2, h4⟩
theorem open_row {v : Value} {d : DataW H} {ps : List MemPlace} (h : DataW.Trod enc Tryd.prog w 0 (fun _ => true) true 22 v d ps) (hv : v.cells.toList = [v]) :
    ∃ l : List AV, Sl w (fun _ => True) 3 v l.length (rowCells l) ∧ ∀ a ∈ l, a.read := by
  obtain ⟨fuel, hf⟩ := h
  rw [hv] at hf
  exact open_row_at hf
theorem sl_one {w : World} {B : Nat → Prop} {sz : Nat} {v : Value} {n : Nat} {cs : List Value} (h : Sl w B sz v n cs) : v.oneCell' = true := by
  obtain ⟨p, cap, rfl, _⟩ := h.form
  rfl
end
end Go.Proofs.YtlgohkdckdnmhaaDoor
/- How schemas that came in are read. -/
namespace Go.Proofs.YtlgohkdckdnmhaaDoor
open Go.RowKit Go.Afx

theorem ocCol : Tryd.prog.cellsOf 66 = 2 := by kernel_rfl
theorem ocCols : Tryd.prog.cellsOf 44 = 1 := by kernel_rfl
theorem ocIdx : Tryd.prog.cellsOf 55 = 2 := by kernel_rfl
theorem ocIdxs : Tryd.prog.cellsOf 45 = 1 := by kernel_rfl
theorem ocInts : Tryd.prog.cellsOf 40 = 1 := by kernel_rfl
theorem ocBool : Tryd.prog.cellsOf 4 = 1 := by kernel_rfl
def ColV.read (c : ColV) : Prop := c.name.size ≤ maxLen ∧ fit64 c.kind
def SchV.read (s : SchV) : Prop := fit64 s.limit ∧ fit64 s.parts ∧ fit64 s.by_ ∧ ∀ c ∈ s.cols, c.read
section
variable {H : Type} {enc : TypeId × Value → H} {w : World}
theorem open_cols_at {fuel : Nat} {v : Value} {y : DataW H × List MemPlace} (hf : DataW.trod enc Tryd.prog w 0 (fun _ => true) true fuel 44 [v] = some y) : ∃ l : List ColV, Sl w (fun _ => True) 2 v l.length (colCells l) ∧ ∀ c ∈ l, c.read := by
  obtain ⟨es, h1, h2⟩ := open_sl Tryd.underlying44 ocCol (by omega) hf (fun c => ∃ a : ColV, c = a.cells ∧ a.read) (fun c ⟨a, hc, _⟩ => by subst hc; intro u hu; simp [ColV.cells] at hu; rcases hu with rfl | rfl <;> rfl) (fun f c y hl hy => by
    obtain ⟨n, hfs⟩ := open_fields Tryd.underlying66 hy
    obtain ⟨c0, c1, rfl⟩ := list2 hl
    obtain ⟨y0, h0⟩ := hfs 0 _ rfl
    obtain ⟨y1, h1⟩ := hfs 1 _ rfl
    simp only [ocInt, ocStr, List.drop_zero, List.drop_succ_cons, List.take_succ_cons, List.take_zero] at h0 h1
    obtain ⟨s, e0, _, w0⟩ := DataW.trod_string Tryd.underlying9 h0
    obtain ⟨k, e1, _, w1⟩ := DataW.trod_int Tryd.underlying3 h1
    simp only [List.cons.injEq, and_true] at e0 e1
    subst e0 e1
    exact ⟨⟨s, k⟩, rfl, w0, wf_fit64 w1⟩)
  obtain ⟨l, rfl, h4⟩ := choose_list es (fun c hcm => (h1 c hcm).2)
  rw [List.length_map] at h2
  exact ⟨l, h2, h4⟩
theorem open_ints_at {fuel : Nat} {v : Value} {y : DataW H × List MemPlace} (hf : DataW.trod enc Tryd.prog w 0 (fun _ => true) true fuel 40 [v] = some y) : ∃ l : List Int, Sl w (fun _ => True) 1 v l.length (ints l) := by
  obtain ⟨l, h1, _⟩ := open_ints_sl Tryd.underlying40 Tryd.underlying3 ocInt hf
  exact ⟨l, h1⟩
theorem open_idxs_at {fuel : Nat} {v : Value} {y : DataW H × List MemPlace} (hf : DataW.trod enc Tryd.prog w 0 (fun _ => true) true fuel 45 [v] = some y) : ∃ l : List IdxV, IdxAt w (fun _ => True) v l := by
  obtain ⟨es, h1, h2⟩ := open_sl Tryd.underlying45 ocIdx (by omega) hf (fun c => ∃ x : IdxV, c = x.cells ∧ Sl w (fun _ => True) 1 x.v x.l.length (ints x.l)) (fun c ⟨x, hc, hx⟩ => by subst hc; exact (Ones.nil.cons (rfl : (Value.bool x.unique).oneCell' = true)).cons (sl_one hx)) (fun f c y hl hy => by
    obtain ⟨n, hfs⟩ := open_fields Tryd.underlying55 hy
    obtain ⟨c0, c1, rfl⟩ := list2 hl
    obtain ⟨y0, h0⟩ := hfs 0 _ rfl
    obtain ⟨y1, h1⟩ := hfs 1 _ rfl
    simp only [ocInts, ocBool, List.drop_zero, List.drop_succ_cons, List.take_succ_cons, List.take_zero] at h0 h1
    obtain ⟨l, h2⟩ := open_ints_at h0
    obtain ⟨b, e1, _⟩ := DataW.trod_bool Tryd.underlying4 h1
    simp only [List.cons.injEq, and_true] at e1
    subst e1
    exact ⟨⟨c0, l, b⟩, rfl, h2⟩)
  obtain ⟨l, rfl, h4⟩ := choose_list es (fun c hcm => (h1 c hcm).2)
  rw [List.length_map] at h2
  exact ⟨l, h2, h4⟩
theorem open_sch {cs : Array Value} {d : DataW H} {ps : List MemPlace} (h : DataW.Trod enc Tryd.prog w 0 (fun _ => true) true 47 (.agg cs) d ps) (hs : cs.size = 6) :
    ∃ s : SchV, Value.agg cs = s.agg ∧ SchAt w (fun _ => True) s ∧ s.read := by
  obtain ⟨fuel, hf⟩ := h
  have hf2 : DataW.trod enc Tryd.prog w 0 (fun _ => true) true fuel 47 cs.toList = some _ := hf
  obtain ⟨n, hfs⟩ := open_fields Tryd.underlying47 hf2
  obtain ⟨c0, c1, c2, c3, c4, c5, hcs⟩ := list6 (l := cs.toList) (by simpa using hs)
  rw [hcs] at hfs
  obtain ⟨y0, h0⟩ := hfs 0 _ rfl
  obtain ⟨y1, h1⟩ := hfs 1 _ rfl
  obtain ⟨y2, h2⟩ := hfs 2 _ rfl
  obtain ⟨y3, h3⟩ := hfs 3 _ rfl
  obtain ⟨y4, h4⟩ := hfs 4 _ rfl
  obtain ⟨y5, h5⟩ := hfs 5 _ rfl
  simp only [ocStr, ocCols, ocIdxs, ocInt, List.drop_zero, List.drop_succ_cons, List.take_succ_cons, List.take_zero] at h0 h1 h2 h3 h4 h5
  obtain ⟨s, e0, _, w0⟩ := DataW.trod_string Tryd.underlying9 h0
  obtain ⟨l, hl1, hl2⟩ := open_cols_at h1
  obtain ⟨il, hi1⟩ := open_idxs_at h2
  obtain ⟨k3, e3, _, w3⟩ := DataW.trod_int Tryd.underlying3 h3
  obtain ⟨k4, e4, _, w4⟩ := DataW.trod_int Tryd.underlying3 h4
  obtain ⟨k5, e5, _, w5⟩ := DataW.trod_int Tryd.underlying3 h5
  simp only [List.cons.injEq, and_true] at e0 e3 e4 e5
  subst e0 e3 e4 e5
  refine ⟨⟨s, c1, l, c2, il, k3, k4, k5⟩, ?_, ⟨hl1, hi1, fun c hc => (hl2 c hc).1, w0⟩, wf_fit64 w3, wf_fit64 w4, wf_fit64 w5, hl2⟩
  have : cs = #[.string s, c1, c2, .int .i64 k3, .int .i64 k4, .int .i64 k5] := by rw [← Array.toList_inj, hcs]
  rw [this]; rfl
end
end Go.Proofs.YtlgohkdckdnmhaaDoor
/- The law SchemaFits: its walk. -/
namespace Go.Proofs.YtlgohkdckdnmhaaDoor
open Go.RowKit Go.Afx

set_option maxRecDepth 100000 in
set_option maxHeartbeats 8000000 in
theorem scFits_walk (w : World) (hm : Mx w) (s : SchV) (v : Value) (row : List AV) (i : Int) (h : SchAt w (fun _ => True) s) (hr : Sl w (fun _ => True) 3 v row.length (rowCells row)) (hf : ∀ a ∈ row, fit64 a.n) :
    Calls Tryd.prog 12 #[s.agg, v, .int .i64 i] w fun e w' => e = .returned (.bool true) ∧ Below w.heap.size w w' := by
  have hal : Below w.heap.size w (w.alloc (.cells s.cells.toArray 47)) := (Below.refl _ _).alloc (Nat.le_refl _) _
  have HBK : Hid (Blk (w.alloc (.cells s.cells.toArray 47)) w.heap.size 47 s.cells) := Blk.new w _ _
  have h0 := h.below hal
  have hr0 := hr.below hal
  have hm0 := hm.below hal
  obtain ⟨pc, cc, hpc, hcc1, hcc⟩ := h.cols.form
  obtain ⟨pi, ci, hpi, hci1, hci⟩ := h.idx.1.form
  obtain ⟨pr, cr, rfl, hpr1, hpr2⟩ := hr.form
  have HB0 := Lib.hid hal
  generalize hw0 : w.alloc (.cells s.cells.toArray 47) = w0 at *
  have HG := Lib.hid (great_sch w0 _ s h0.cols h0.idx)
  have HAW := Lib.hid (fun W (hb : Below w0.heap.size w0 W) => awake03_any W (hm0.below hb))
  have HGR := Lib.hid (fun W (hb : Below w0.heap.size w0 W) => great_row W _ (.slice pr row.length cr) row (hr0.below hb))
  have hga : s.agg = .agg #[.string s.name, .slice pc s.cols.length cc, .slice pi s.idx.length ci, .int .i64 s.limit, .int .i64 s.parts, .int .i64 s.by_] := by unfold SchV.agg; rw [hpc, hpi]
  have hgc : s.cells = [.string s.name, .slice pc s.cols.length cc, .slice pi s.idx.length ci, .int .i64 s.limit, .int .i64 s.parts, .int .i64 s.by_] := by unfold SchV.cells; rw [hpc, hpi]
  rw [hgc] at hw0 HBK
  rw [hga] at HG ⊢
  clear h hr hm hal hgc
  by_cases hg : greatS s.name s.cols s.idx = true
  · rw [hg] at HG
    clear hg h0 hr0 hm0 hpc hpi hga hf
    obtain ⟨x0, x1, x2, x3, x4, x5⟩ := sch_cells HBK.out
    have HX := Lib.hid (Below.refl w0.heap.size w0)
    go_enter Tryd.func12, Tryd.ntmps12
    go_wp2_with fail
    clear hw0 x0 x1 x2 x3 x4 x5
    refine HG.out.mono ?_
    rintro e wn ⟨rfl, hbn⟩
    have HXN := Lib.hid (HX.out.trans (hbn.mono HX.out.size))
    clear hbn HX
    have HX := HXN
    clear HXN
    go_wp2_with fail
    refine (HAW.out _ HX.out).mono ?_
    rintro e w9 ⟨rfl, hb9⟩
    have HB9 := Lib.hid (HX.out.trans (hb9.mono HX.out.size))
    clear hb9
    go_wp2
    go_ret
    exact ⟨rfl, HB0.out.trans (HB9.out.mono HB0.out.size)⟩
  rw [Bool.not_eq_true] at hg
  rw [hg] at HG
  obtain ⟨hc12, hi8, _, _, hx12⟩ := greatS_no hg
  by_cases hgr : greatB row = true
  · rw [hgr] at HGR
    clear hg hgr h0 hr0 hm0 hpc hpi hga hf hc12 hi8 hx12
    obtain ⟨x0, x1, x2, x3, x4, x5⟩ := sch_cells HBK.out
    have HX := Lib.hid (Below.refl w0.heap.size w0)
    go_enter Tryd.func12, Tryd.ntmps12
    go_wp2_with fail
    clear hw0 x0 x1 x2 x3 x4 x5
    refine HG.out.mono ?_
    rintro e wn ⟨rfl, hbn⟩
    have HXN := Lib.hid (HX.out.trans (hbn.mono HX.out.size))
    clear hbn HX
    have HX := HXN
    clear HXN
    go_wp2_with fail
    refine (HGR.out _ HX.out).mono ?_
    rintro e wn ⟨rfl, hbn⟩
    have HXN := Lib.hid (HX.out.trans (hbn.mono HX.out.size))
    clear hbn HX
    have HX := HXN
    clear HXN
    go_wp2_with fail
    refine (HAW.out _ HX.out).mono ?_
    rintro e w9 ⟨rfl, hb9⟩
    have HB9 := Lib.hid (HX.out.trans (hb9.mono HX.out.size))
    clear hb9
    go_wp2
    go_ret
    exact ⟨rfl, HB0.out.trans (HB9.out.mono HB0.out.size)⟩
  rw [Bool.not_eq_true] at hgr
  rw [hgr] at HGR
  have hrl : row.length ≤ 30 := by
    unfold greatB at hgr
    simp only [Bool.or_eq_false_iff, decide_eq_false_iff_not] at hgr
    omega
  have HRR := Lib.hid (fun W (hb : Below w0.heap.size w0 W) => refright_any W _ s (h0.below hb))
  have HRF := Lib.hid (fun W (hb : Below w0.heap.size w0 W) => reffits_any W _ _ s (.slice pr row.length cr) row (h0.below hb).cols (hr0.below hb) ⟨_, _, _, hpi⟩)
  have HFF := Lib.hid (fun W (hb : Below w0.heap.size w0 W) => schfits_any W _ _ s (.slice pr row.length cr) row (h0.below hb) (hr0.below hb) (by omega))
  have HK := Lib.hid (fun W (hb : Below w0.heap.size w0 W) => schkey_any W (hm0.below hb) _ _ s i (.slice pr row.length cr) row (h0.below hb) (hr0.below hb) hf (by omega) (fun x hx => by have := hx12 x hx; omega))
  have HKS := Lib.hid (fun W (hb : Below w0.heap.size w0 W) => schkeys_any W (hm0.below hb) _ _ s (.slice pr row.length cr) row (h0.below hb) (hr0.below hb) hf (by omega) (fun x hx => by have := hx12 x hx; omega))
  have HPT := Lib.hid (fun W (hb : Below w0.heap.size w0 W) => schpart_any W _ _ s (.slice pr row.length cr) row (h0.below hb) (hr0.below hb) hf (by omega))
  rw [hga] at HRR HRF HFF HK HKS HPT
  clear hg hgr
  by_cases hrt : rightS s = false
  · have hc1 := chk_no s i row hrt
    have hc2 := chk_no s 0 row hrt
    rw [hrt] at HRR HFF
    rw [keyO_no (by rw [hc1]; omega), hc1] at HK
    rw [keysO_no (by rw [hc2]; omega), hc2] at HKS
    rw [partO_no (by rw [hc2]; omega), hc2] at HPT
    rw [Bool.false_and] at HFF
    clear hrt hc1 hc2 h0 hr0 hm0 hpc hpi hga hf hc12 hi8 hx12 HRF
    obtain ⟨x0, x1, x2, x3, x4, x5⟩ := sch_cells HBK.out
    have HX := Lib.hid (Below.refl w0.heap.size w0)
    go_enter Tryd.func12, Tryd.ntmps12
    go_wp2_with fail
    clear hw0 x0 x1 x2 x3 x4 x5
    refine HG.out.mono ?_
    rintro e wn ⟨rfl, hbn⟩
    have HXN := Lib.hid (HX.out.trans (hbn.mono HX.out.size))
    clear hbn HX
    have HX := HXN
    clear HXN
    go_wp2_with fail
    refine (HGR.out _ HX.out).mono ?_
    rintro e wn ⟨rfl, hbn⟩
    have HXN := Lib.hid (HX.out.trans (hbn.mono HX.out.size))
    clear hbn HX
    have HX := HXN
    clear HXN
    obtain ⟨x0, x1, x2, x3, x4, x5⟩ := sch_cells (HBK.out.below HX.out)
    go_wp2_with fail
    clear x0 x1 x2 x3 x4 x5
    refine (HRR.out _ HX.out).mono ?_
    rintro e wn ⟨rfl, hbn⟩
    have HXN := Lib.hid (HX.out.trans (hbn.mono HX.out.size))
    clear hbn HX
    have HX := HXN
    clear HXN
    obtain ⟨x0, x1, x2, x3, x4, x5⟩ := sch_cells (HBK.out.below HX.out)
    go_wp2_with fail
    clear x0 x1 x2 x3 x4 x5
    refine (HK.out _ HX.out).mono ?_
    rintro e wn ⟨rfl, hbn⟩
    have HXN := Lib.hid (HX.out.trans (hbn.mono HX.out.size))
    clear hbn HX
    have HX := HXN
    clear HXN
    obtain ⟨x0, x1, x2, x3, x4, x5⟩ := sch_cells (HBK.out.below HX.out)
    go_wp2_with fail
    clear x0 x1 x2 x3 x4 x5
    refine (HKS.out _ HX.out).mono ?_
    rintro e wn ⟨out, rfl, hout, hbn⟩
    have HXN := Lib.hid (HX.out.trans (hbn.mono HX.out.size))
    clear hbn HX
    have HX := HXN
    clear HXN
    obtain ⟨po, co, rfl, hco1, hco2⟩ := hout.form
    have HOUT := Lib.hid hout
    clear hout
    obtain ⟨x0, x1, x2, x3, x4, x5⟩ := sch_cells (HBK.out.below HX.out)
    go_wp2_with fail
    clear x0 x1 x2 x3 x4 x5
    refine (HPT.out _ HX.out).mono ?_
    rintro e wn2 ⟨rfl, hbn⟩
    have HOUT2 := Lib.hid (HOUT.out.below hbn)
    have HXN := Lib.hid (HX.out.trans (hbn.mono HX.out.size))
    clear hbn HX HOUT
    have HX := HXN
    clear HXN
    obtain ⟨x0, x1, x2, x3, x4, x5⟩ := sch_cells (HBK.out.below HX.out)
    go_wp2_with fail
    clear x0 x1 x2 x3 x4 x5
    refine (HFF.out _ HX.out).mono ?_
    rintro e wn3 ⟨rfl, hbn⟩
    have HOUT3 := Lib.hid (HOUT2.out.below hbn)
    have HXN := Lib.hid (HX.out.trans (hbn.mono HX.out.size))
    clear hbn HX HOUT2
    have HX := HXN
    clear HXN
    go_wp2_with fail
    refine (HAW.out _ HX.out).mono ?_
    rintro e w9 ⟨rfl, hb9⟩
    have HB9 := Lib.hid (HX.out.trans (hb9.mono HX.out.size))
    clear hb9
    go_wp2
    go_ret
    exact ⟨rfl, HB0.out.trans (HB9.out.mono HB0.out.size)⟩
  rw [Bool.not_eq_false] at hrt
  obtain ⟨hby0, hby1, hp1, hp8, _, _, hi1, hi4, _⟩ := rightS_by hrt
  have h00 : (decide ((0 : Int) ≤ 0) && decide ((0 : Int) < (s.idx.length : Int))) = true := by rw [Bool.and_eq_true, decide_eq_true_eq, decide_eq_true_eq]; omega
  by_cases hft : fitB s.cols row = false
  · have hc2 := chk_unfit s 0 row hrt h00 hft
    rw [hrt] at HRR HFF
    rw [hft] at HRF HFF
    rw [Bool.true_and] at HFF
    rw [keysO_no (by rw [hc2]; omega), hc2] at HKS
    rw [partO_no (by rw [hc2]; omega), hc2] at HPT
    cases hd0 : decide (0 ≤ i)
    · have hc1 := chk_out s i row (by rw [hd0]; rfl)
      rw [keyO_no (by rw [hc1]; omega), hc1] at HK
      clear hrt hft hc1 hc2 h00 h0 hr0 hm0 hpc hpi hga hf hc12 hi8 hx12 hby0 hby1 hp1 hp8 hi1 hi4
      obtain ⟨x0, x1, x2, x3, x4, x5⟩ := sch_cells HBK.out
      have HX := Lib.hid (Below.refl w0.heap.size w0)
      go_enter Tryd.func12, Tryd.ntmps12
      go_wp2_with fail
      clear hw0 x0 x1 x2 x3 x4 x5
      refine HG.out.mono ?_
      rintro e wn ⟨rfl, hbn⟩
      have HXN := Lib.hid (HX.out.trans (hbn.mono HX.out.size))
      clear hbn HX
      have HX := HXN
      clear HXN
      go_wp2_with fail
      refine (HGR.out _ HX.out).mono ?_
      rintro e wn ⟨rfl, hbn⟩
      have HXN := Lib.hid (HX.out.trans (hbn.mono HX.out.size))
      clear hbn HX
      have HX := HXN
      clear HXN
      obtain ⟨x0, x1, x2, x3, x4, x5⟩ := sch_cells (HBK.out.below HX.out)
      go_wp2_with fail
      clear x0 x1 x2 x3 x4 x5
      refine (HRR.out _ HX.out).mono ?_
      rintro e wn ⟨rfl, hbn⟩
      have HXN := Lib.hid (HX.out.trans (hbn.mono HX.out.size))
      clear hbn HX
      have HX := HXN
      clear HXN
      obtain ⟨x0, x1, x2, x3, x4, x5⟩ := sch_cells (HBK.out.below HX.out)
      go_wp2_with fail
      clear x0 x1 x2 x3 x4 x5
      refine (HRF.out _ HX.out).mono ?_
      rintro e wn ⟨rfl, hbn⟩
      have HXN := Lib.hid (HX.out.trans (hbn.mono HX.out.size))
      clear hbn HX
      have HX := HXN
      clear HXN
      obtain ⟨x0, x1, x2, x3, x4, x5⟩ := sch_cells (HBK.out.below HX.out)
      go_wp2_with fail
      clear x0 x1 x2 x3 x4 x5
      refine (HK.out _ HX.out).mono ?_
      rintro e wn ⟨rfl, hbn⟩
      have HXN := Lib.hid (HX.out.trans (hbn.mono HX.out.size))
      clear hbn HX
      have HX := HXN
      clear HXN
      obtain ⟨x0, x1, x2, x3, x4, x5⟩ := sch_cells (HBK.out.below HX.out)
      go_wp2_with fail
      clear x0 x1 x2 x3 x4 x5
      refine (HKS.out _ HX.out).mono ?_
      rintro e wn ⟨out, rfl, hout, hbn⟩
      have HXN := Lib.hid (HX.out.trans (hbn.mono HX.out.size))
      clear hbn HX
      have HX := HXN
      clear HXN
      obtain ⟨po, co, rfl, hco1, hco2⟩ := hout.form
      have HOUT := Lib.hid hout
      clear hout
      obtain ⟨x0, x1, x2, x3, x4, x5⟩ := sch_cells (HBK.out.below HX.out)
      go_wp2_with fail
      clear x0 x1 x2 x3 x4 x5
      refine (HPT.out _ HX.out).mono ?_
      rintro e wn2 ⟨rfl, hbn⟩
      have HOUT2 := Lib.hid (HOUT.out.below hbn)
      have HXN := Lib.hid (HX.out.trans (hbn.mono HX.out.size))
      clear hbn HX HOUT
      have HX := HXN
      clear HXN
      obtain ⟨x0, x1, x2, x3, x4, x5⟩ := sch_cells (HBK.out.below HX.out)
      go_wp2_with fail
      clear x0 x1 x2 x3 x4 x5
      refine (HFF.out _ HX.out).mono ?_
      rintro e wn3 ⟨rfl, hbn⟩
      have HOUT3 := Lib.hid (HOUT2.out.below hbn)
      have HXN := Lib.hid (HX.out.trans (hbn.mono HX.out.size))
      clear hbn HX HOUT2
      have HX := HXN
      clear HXN
      go_wp2_with fail
      refine (HAW.out _ HX.out).mono ?_
      rintro e w9 ⟨rfl, hb9⟩
      have HB9 := Lib.hid (HX.out.trans (hb9.mono HX.out.size))
      clear hb9
      go_wp2
      go_ret
      exact ⟨rfl, HB0.out.trans (HB9.out.mono HB0.out.size)⟩
    · cases hd1 : decide (i < (s.idx.length : Int))
      · have hc1 := chk_out s i row (by rw [hd0, hd1]; rfl)
        rw [keyO_no (by rw [hc1]; omega), hc1] at HK
        clear hrt hft hc1 hc2 h00 h0 hr0 hm0 hpc hpi hga hf hc12 hi8 hx12 hby0 hby1 hp1 hp8 hi1 hi4
        obtain ⟨x0, x1, x2, x3, x4, x5⟩ := sch_cells HBK.out
        have HX := Lib.hid (Below.refl w0.heap.size w0)
        go_enter Tryd.func12, Tryd.ntmps12
        go_wp2_with fail
        clear hw0 x0 x1 x2 x3 x4 x5
        refine HG.out.mono ?_
        rintro e wn ⟨rfl, hbn⟩
        have HXN := Lib.hid (HX.out.trans (hbn.mono HX.out.size))
        clear hbn HX
        have HX := HXN
        clear HXN
        go_wp2_with fail
        refine (HGR.out _ HX.out).mono ?_
        rintro e wn ⟨rfl, hbn⟩
        have HXN := Lib.hid (HX.out.trans (hbn.mono HX.out.size))
        clear hbn HX
        have HX := HXN
        clear HXN
        obtain ⟨x0, x1, x2, x3, x4, x5⟩ := sch_cells (HBK.out.below HX.out)
        go_wp2_with fail
        clear x0 x1 x2 x3 x4 x5
        refine (HRR.out _ HX.out).mono ?_
        rintro e wn ⟨rfl, hbn⟩
        have HXN := Lib.hid (HX.out.trans (hbn.mono HX.out.size))
        clear hbn HX
        have HX := HXN
        clear HXN
        obtain ⟨x0, x1, x2, x3, x4, x5⟩ := sch_cells (HBK.out.below HX.out)
        go_wp2_with fail
        clear x0 x1 x2 x3 x4 x5
        refine (HRF.out _ HX.out).mono ?_
        rintro e wn ⟨rfl, hbn⟩
        have HXN := Lib.hid (HX.out.trans (hbn.mono HX.out.size))
        clear hbn HX
        have HX := HXN
        clear HXN
        obtain ⟨x0, x1, x2, x3, x4, x5⟩ := sch_cells (HBK.out.below HX.out)
        go_wp2_with fail
        clear x0 x1 x2 x3 x4 x5
        refine (HK.out _ HX.out).mono ?_
        rintro e wn ⟨rfl, hbn⟩
        have HXN := Lib.hid (HX.out.trans (hbn.mono HX.out.size))
        clear hbn HX
        have HX := HXN
        clear HXN
        obtain ⟨x0, x1, x2, x3, x4, x5⟩ := sch_cells (HBK.out.below HX.out)
        go_wp2_with fail
        clear x0 x1 x2 x3 x4 x5
        refine (HKS.out _ HX.out).mono ?_
        rintro e wn ⟨out, rfl, hout, hbn⟩
        have HXN := Lib.hid (HX.out.trans (hbn.mono HX.out.size))
        clear hbn HX
        have HX := HXN
        clear HXN
        obtain ⟨po, co, rfl, hco1, hco2⟩ := hout.form
        have HOUT := Lib.hid hout
        clear hout
        obtain ⟨x0, x1, x2, x3, x4, x5⟩ := sch_cells (HBK.out.below HX.out)
        go_wp2_with fail
        clear x0 x1 x2 x3 x4 x5
        refine (HPT.out _ HX.out).mono ?_
        rintro e wn2 ⟨rfl, hbn⟩
        have HOUT2 := Lib.hid (HOUT.out.below hbn)
        have HXN := Lib.hid (HX.out.trans (hbn.mono HX.out.size))
        clear hbn HX HOUT
        have HX := HXN
        clear HXN
        obtain ⟨x0, x1, x2, x3, x4, x5⟩ := sch_cells (HBK.out.below HX.out)
        go_wp2_with fail
        clear x0 x1 x2 x3 x4 x5
        refine (HFF.out _ HX.out).mono ?_
        rintro e wn3 ⟨rfl, hbn⟩
        have HOUT3 := Lib.hid (HOUT2.out.below hbn)
        have HXN := Lib.hid (HX.out.trans (hbn.mono HX.out.size))
        clear hbn HX HOUT2
        have HX := HXN
        clear HXN
        go_wp2_with fail
        refine (HAW.out _ HX.out).mono ?_
        rintro e w9 ⟨rfl, hb9⟩
        have HB9 := Lib.hid (HX.out.trans (hb9.mono HX.out.size))
        clear hb9
        go_wp2
        go_ret
        exact ⟨rfl, HB0.out.trans (HB9.out.mono HB0.out.size)⟩
      · have hc1 := chk_unfit s i row hrt (by rw [hd0, hd1]; rfl) hft
        rw [keyO_no (by rw [hc1]; omega), hc1] at HK
        clear hrt hft hc1 hc2 h00 h0 hr0 hm0 hpc hpi hga hf hc12 hi8 hx12 hby0 hby1 hp1 hp8 hi1 hi4
        obtain ⟨x0, x1, x2, x3, x4, x5⟩ := sch_cells HBK.out
        have HX := Lib.hid (Below.refl w0.heap.size w0)
        go_enter Tryd.func12, Tryd.ntmps12
        go_wp2_with fail
        clear hw0 x0 x1 x2 x3 x4 x5
        refine HG.out.mono ?_
        rintro e wn ⟨rfl, hbn⟩
        have HXN := Lib.hid (HX.out.trans (hbn.mono HX.out.size))
        clear hbn HX
        have HX := HXN
        clear HXN
        go_wp2_with fail
        refine (HGR.out _ HX.out).mono ?_
        rintro e wn ⟨rfl, hbn⟩
        have HXN := Lib.hid (HX.out.trans (hbn.mono HX.out.size))
        clear hbn HX
        have HX := HXN
        clear HXN
        obtain ⟨x0, x1, x2, x3, x4, x5⟩ := sch_cells (HBK.out.below HX.out)
        go_wp2_with fail
        clear x0 x1 x2 x3 x4 x5
        refine (HRR.out _ HX.out).mono ?_
        rintro e wn ⟨rfl, hbn⟩
        have HXN := Lib.hid (HX.out.trans (hbn.mono HX.out.size))
        clear hbn HX
        have HX := HXN
        clear HXN
        obtain ⟨x0, x1, x2, x3, x4, x5⟩ := sch_cells (HBK.out.below HX.out)
        go_wp2_with fail
        clear x0 x1 x2 x3 x4 x5
        refine (HRF.out _ HX.out).mono ?_
        rintro e wn ⟨rfl, hbn⟩
        have HXN := Lib.hid (HX.out.trans (hbn.mono HX.out.size))
        clear hbn HX
        have HX := HXN
        clear HXN
        obtain ⟨x0, x1, x2, x3, x4, x5⟩ := sch_cells (HBK.out.below HX.out)
        go_wp2_with fail
        clear x0 x1 x2 x3 x4 x5
        refine (HK.out _ HX.out).mono ?_
        rintro e wn ⟨rfl, hbn⟩
        have HXN := Lib.hid (HX.out.trans (hbn.mono HX.out.size))
        clear hbn HX
        have HX := HXN
        clear HXN
        obtain ⟨x0, x1, x2, x3, x4, x5⟩ := sch_cells (HBK.out.below HX.out)
        go_wp2_with fail
        clear x0 x1 x2 x3 x4 x5
        refine (HKS.out _ HX.out).mono ?_
        rintro e wn ⟨out, rfl, hout, hbn⟩
        have HXN := Lib.hid (HX.out.trans (hbn.mono HX.out.size))
        clear hbn HX
        have HX := HXN
        clear HXN
        obtain ⟨po, co, rfl, hco1, hco2⟩ := hout.form
        have HOUT := Lib.hid hout
        clear hout
        obtain ⟨x0, x1, x2, x3, x4, x5⟩ := sch_cells (HBK.out.below HX.out)
        go_wp2_with fail
        clear x0 x1 x2 x3 x4 x5
        refine (HPT.out _ HX.out).mono ?_
        rintro e wn2 ⟨rfl, hbn⟩
        have HOUT2 := Lib.hid (HOUT.out.below hbn)
        have HXN := Lib.hid (HX.out.trans (hbn.mono HX.out.size))
        clear hbn HX HOUT
        have HX := HXN
        clear HXN
        obtain ⟨x0, x1, x2, x3, x4, x5⟩ := sch_cells (HBK.out.below HX.out)
        go_wp2_with fail
        clear x0 x1 x2 x3 x4 x5
        refine (HFF.out _ HX.out).mono ?_
        rintro e wn3 ⟨rfl, hbn⟩
        have HOUT3 := Lib.hid (HOUT2.out.below hbn)
        have HXN := Lib.hid (HX.out.trans (hbn.mono HX.out.size))
        clear hbn HX HOUT2
        have HX := HXN
        clear HXN
        go_wp2_with fail
        refine (HAW.out _ HX.out).mono ?_
        rintro e w9 ⟨rfl, hb9⟩
        have HB9 := Lib.hid (HX.out.trans (hb9.mono HX.out.size))
        clear hb9
        go_wp2
        go_ret
        exact ⟨rfl, HB0.out.trans (HB9.out.mono HB0.out.size)⟩
  rw [Bool.not_eq_false] at hft
  have hc2 := chk_ok s 0 row hrt h00 hft
  obtain ⟨hlen, hra⟩ := fitB_len hft
  have hin := rightS_in hrt row hlen
  obtain ⟨n, hn⟩ : ∃ n : Nat, s.by_ = (n : Int) := ⟨s.by_.toNat, by omega⟩
  have hnr : n < row.length := by omega
  obtain ⟨M, hM⟩ : ∃ M : Nat, s.parts = (M : Int) := ⟨s.parts.toNat, by omega⟩
  have hran : row[n].right = true := by
    have := hra
    unfold rightAll at this
    rw [List.all_eq_true] at this
    exact this _ (List.getElem_mem hnr)
  have hfa : fits row[n].n := hf _ (List.getElem_mem hnr)
  have HRS := Lib.hid (fun W => refspread_any W row[n].kind row[n].n row[n].s M (by omega) (by omega) hfa (fun h => right_two _ hran h) (right_size _ hran))
  rw [← hM] at HRS
  have hpo : partO s row = mdN (spT row[n].kind row[n].n row[n].s) s.parts := by
    unfold partO
    rw [if_pos hc2, hn, Int.toNat_natCast, List.getElem?_eq_getElem hnr]
  have HRK := Lib.hid (fun W (hb : Below w0.heap.size w0 W) k hk => refKey_any W _ _ s k (.slice pr row.length cr) row (h0.below hb) (hr0.below hb) hk hf (fun x hx => by have := hx12 x hx; omega) hin hra)
  rw [hga] at HRK
  have hko : keysO s row = s.idx.map (skey s.idx row) := by unfold keysO; rw [if_pos hc2]
  rw [hc2, hko, List.length_map] at HKS
  rw [hc2, hpo] at HPT
  rw [hrt] at HRR HFF
  rw [hft] at HRF HFF
  rw [Bool.true_and] at HFF
  have hl0 : ((s.idx.length : Int) != (s.idx.length : Int)) = false := by simp
  have HR0 := Lib.hid hr0
  rw [hn] at HBK hw0 HRR HRF HFF HK HKS HPT HRK HG ⊢
  obtain ⟨a, ha⟩ : ∃ a, row[n] = a := ⟨_, rfl⟩
  have HAG := Lib.hid ha
  rw [ha] at HRS HPT
  obtain ⟨ak, an, sa⟩ := a
  simp only at HRS HPT
  cases hd0 : decide (0 ≤ i)
  · have hc1 := chk_out s i row (by rw [hd0]; rfl)
    rw [keyO_no (by rw [hc1]; omega), hc1] at HK
    clear hrt hft hc1 hc2 h00 h0 hr0 hm0 hpc hpi hga hf hc12 hi8 hx12 hby0 hby1 hp1 hp8 hi1 hi4 hlen hra hin hn hM hran hfa hpo hko ha
    obtain ⟨x0, x1, x2, x3, x4, x5⟩ := sch_cells HBK.out
    have HX := Lib.hid (Below.refl w0.heap.size w0)
    go_enter Tryd.func12, Tryd.ntmps12
    go_wp2_with fail
    clear hw0 x0 x1 x2 x3 x4 x5
    refine HG.out.mono ?_
    rintro e wn ⟨rfl, hbn⟩
    have HXN := Lib.hid (HX.out.trans (hbn.mono HX.out.size))
    clear hbn HX
    have HX := HXN
    clear HXN
    go_wp2_with fail
    refine (HGR.out _ HX.out).mono ?_
    rintro e wn ⟨rfl, hbn⟩
    have HXN := Lib.hid (HX.out.trans (hbn.mono HX.out.size))
    clear hbn HX
    have HX := HXN
    clear HXN
    obtain ⟨x0, x1, x2, x3, x4, x5⟩ := sch_cells (HBK.out.below HX.out)
    go_wp2_with fail
    clear x0 x1 x2 x3 x4 x5
    refine (HRR.out _ HX.out).mono ?_
    rintro e wn ⟨rfl, hbn⟩
    have HXN := Lib.hid (HX.out.trans (hbn.mono HX.out.size))
    clear hbn HX
    have HX := HXN
    clear HXN
    obtain ⟨x0, x1, x2, x3, x4, x5⟩ := sch_cells (HBK.out.below HX.out)
    go_wp2_with fail
    clear x0 x1 x2 x3 x4 x5
    refine (HRF.out _ HX.out).mono ?_
    rintro e wn ⟨rfl, hbn⟩
    have HXN := Lib.hid (HX.out.trans (hbn.mono HX.out.size))
    clear hbn HX
    have HX := HXN
    clear HXN
    obtain ⟨x0, x1, x2, x3, x4, x5⟩ := sch_cells (HBK.out.below HX.out)
    go_wp2_with fail
    clear x0 x1 x2 x3 x4 x5
    refine (HK.out _ HX.out).mono ?_
    rintro e wn ⟨rfl, hbn⟩
    have HXN := Lib.hid (HX.out.trans (hbn.mono HX.out.size))
    clear hbn HX
    have HX := HXN
    clear HXN
    obtain ⟨x0, x1, x2, x3, x4, x5⟩ := sch_cells (HBK.out.below HX.out)
    go_wp2_with fail
    clear x0 x1 x2 x3 x4 x5
    refine (HKS.out _ HX.out).mono ?_
    rintro e wn ⟨out, rfl, hout, hbn⟩
    have HXN := Lib.hid (HX.out.trans (hbn.mono HX.out.size))
    clear hbn HX
    have HX := HXN
    clear HXN
    obtain ⟨po, co, rfl, hco1, hco2⟩ := hout.form
    have HOUT := Lib.hid hout
    clear hout
    obtain ⟨x0, x1, x2, x3, x4, x5⟩ := sch_cells (HBK.out.below HX.out)
    go_wp2_with fail
    clear x0 x1 x2 x3 x4 x5
    refine (HPT.out _ HX.out).mono ?_
    rintro e wn2 ⟨rfl, hbn⟩
    have HOUT2 := Lib.hid (HOUT.out.below hbn)
    have HXN := Lib.hid (HX.out.trans (hbn.mono HX.out.size))
    clear hbn HX HOUT
    have HX := HXN
    clear HXN
    obtain ⟨x0, x1, x2, x3, x4, x5⟩ := sch_cells (HBK.out.below HX.out)
    go_wp2_with fail
    clear x0 x1 x2 x3 x4 x5
    refine (HFF.out _ HX.out).mono ?_
    rintro e wn3 ⟨rfl, hbn⟩
    have HOUT3 := Lib.hid (HOUT2.out.below hbn)
    have HXN := Lib.hid (HX.out.trans (hbn.mono HX.out.size))
    clear hbn HX HOUT2
    have HX := HXN
    clear HXN
    obtain ⟨x0, x1, x2, x3, x4, x5⟩ := sch_cells (HBK.out.below HX.out)
    go_wp2_with fail
    clear hl0 x0 x1 x2 x3 x4 x5
    go_loopw [17] (fun i wr => ∃ k : Nat, i = .int .i64 k ∧ k ≤ s.idx.length ∧ Below w0.heap.size w0 wr ∧ Sl wr (fun _ => True) 1 (.slice po s.idx.length co) s.idx.length (strC (s.idx.map (skey s.idx row)))) (fun i _ => s.idx.length - (intOf i).toNat)
    case atStart => exact ⟨0, rfl, Nat.zero_le _, HX.out, sl_anyw HOUT3.out⟩
    case round =>
      obtain ⟨k, rfl, hk, hbr, hsl⟩ := hrel
      clear HX HOUT3
      have HX := Lib.hid hbr
      by_cases hka : k < s.idx.length
      · obtain ⟨g1, off1, cap1, hv, _, _, _, hg1, hc1⟩ := hsl.place (by omega)
        cases hv
        have e0 : wr.cell? ⟨g1, off1 + k, none⟩ = some (.string (bs (skey s.idx row s.idx[k]))) := by
          rw [hc1 k (by simpa [strC] using hka)]
          simp [strC, hka]
        have HKR := Lib.hid (fun W hb => HRK.out W hb k hka)
        have hss2 : ((bs (skey s.idx row s.idx[k])).toList == (bs (skey s.idx row s.idx[k])).toList) = true := beq_self_eq_true _
        have HSL := Lib.hid hsl
        have HG1 : Hid (g1 < wr.heap.size) := hg1
        clear hsl hbr hc1
        generalize bs (skey s.idx row s.idx[k]) = S at *
        obtain ⟨x0, x1, x2, x3, x4, x5⟩ := sch_cells (HBK.out.below HX.out)
        have hag : Hid (∀ w3, Below wr.heap.size wr.drew w3 → Agree (fun q => q = g1) wr.drew w3) := fun w3 h q o hq => h.cell (by cases hq; exact HG1.out)
        go_wp2_with fail
        refine wp_region_lit_plan [] [(0, 0), (1, 0), (2, 0), (5, 0), (6, 0), (3, 2), (4, 1), (7, 3), (8, 0)] (fun q => q = g1) (by kernel_rfl) (by kernel_rfl) (fun c a d v w h => by cases d <;> exact h) ?_
        go_wp2_with (first
          | (refine plan_pure (v := _) (by rfl) (by rfl) (by rfl) (by intro _; go_simp; with_reducible rfl) ?_; simp only [List.setIfInBounds_toArray, List.set_cons_zero, List.set_cons_succ]; try go_bits) | (refine plan_read (v := _) (by rfl) (by rfl) (by rfl) (by go_simp; with_reducible rfl) ?_; simp only [List.setIfInBounds_toArray, List.set_cons_zero, List.set_cons_succ]; try go_bits) | (refine plan_readB (v := _) (by rfl) (by rfl) (by rfl) (by intro _ hag; unfold Agree at hag; go_simp; with_reducible rfl) ?_; simp only [List.setIfInBounds_toArray, List.set_cons_zero, List.set_cons_succ]; try go_bits) | (refine plan_skip0 (by rfl) (by rfl) (by rfl) ?_; simp only [List.setIfInBounds_toArray, List.set_cons_zero, List.set_cons_succ]; try go_bits) | (refine plan_skip1 (by rfl) (by rfl) (by rfl) ?_; simp only [List.setIfInBounds_toArray, List.set_cons_zero, List.set_cons_succ]; try go_bits) | (refine plan_skip2 (by rfl) (by rfl) (by rfl) ?_; simp only [List.setIfInBounds_toArray, List.set_cons_zero, List.set_cons_succ]; try go_bits) | (refine plan_skip4 (by rfl) (by rfl) (by rfl) ?_; simp only [List.setIfInBounds_toArray, List.set_cons_zero, List.set_cons_succ]; try go_bits) | (refine plan_any (by rfl) ?_) | (refine plan_keep (by rfl) ?_) | (refine plan_nil ?_) | (with_reducible refine And.intro (by first | assumption | exact Agree.refl _ _ | exact agree_drew _ _ | exact agree_alloc _ (by intro k hk; subst hk; first | omega | (simp; omega))) ?_) | (unfold Act.put; simp only [List.setIfInBounds_toArray, List.set_cons_zero, List.set_cons_succ])
          | (go_at_call 55; refine (HKR.out _ HX.out.drew).mono ?_; clear HKR; rintro e w3 ⟨rfl, hb3⟩; have hag3 := hag.out _ hb3; have HX3 := Lib.hid (HX.out.drew.trans (hb3.mono HX.out.size)); have HS3 := Lib.hid (HSL.out.drew.below hb3); clear hb3))
        go_roundw
        case rel => exact ⟨k + 1, by go_num, by omega, HX3.out, HS3.out⟩
        case measure => (simp [intOf]) <;> omega
      · obtain rfl : k = s.idx.length := by omega
        clear hsl hbr
        obtain ⟨x0, x1, x2, x3, x4, x5⟩ := sch_cells (HBK.out.below HX.out)
        obtain ⟨g, off, cap, hv, hg, e0, e1, e2⟩ := sl_av (HR0.out.below HX.out) hnr
        cases hv
        rw [HAG.out] at e0 e1 e2
        have hpp : (mdN (spT ak an sa) s.parts == mdN (spT ak an sa) s.parts) = true := by simp
        generalize mdN (spT ak an sa) s.parts = z at *
        go_wp2_with fail
        refine wp_region_lit_plan [] [(0, 0), (1, 0), (2, 0), (3, 0), (4, 0), (5, 0), (9, 0), (6, 1), (7, 0), (8, 1), (10, 1), (11, 4), (12, 0), (13, 0), (14, 0), (15, 0), (16, 0), (17, 0), (18, 0), (19, 4), (20, 0), (21, 0)] (fun _ => False) (by kernel_rfl) (by kernel_rfl) (fun c a d v w h => by cases d <;> exact h) ?_
        go_wp2_with (first
          | (refine plan_pure (v := _) (by rfl) (by rfl) (by rfl) (by intro _; go_simp; with_reducible rfl) ?_; simp only [List.setIfInBounds_toArray, List.set_cons_zero, List.set_cons_succ]; try go_bits) | (refine plan_read (v := _) (by rfl) (by rfl) (by rfl) (by go_simp; with_reducible rfl) ?_; simp only [List.setIfInBounds_toArray, List.set_cons_zero, List.set_cons_succ]; try go_bits) | (refine plan_readB (v := _) (by rfl) (by rfl) (by rfl) (by intro _ hag; unfold Agree at hag; go_simp; with_reducible rfl) ?_; simp only [List.setIfInBounds_toArray, List.set_cons_zero, List.set_cons_succ]; try go_bits) | (refine plan_skip0 (by rfl) (by rfl) (by rfl) ?_; simp only [List.setIfInBounds_toArray, List.set_cons_zero, List.set_cons_succ]; try go_bits) | (refine plan_skip1 (by rfl) (by rfl) (by rfl) ?_; simp only [List.setIfInBounds_toArray, List.set_cons_zero, List.set_cons_succ]; try go_bits) | (refine plan_skip2 (by rfl) (by rfl) (by rfl) ?_; simp only [List.setIfInBounds_toArray, List.set_cons_zero, List.set_cons_succ]; try go_bits) | (refine plan_skip4 (by rfl) (by rfl) (by rfl) ?_; simp only [List.setIfInBounds_toArray, List.set_cons_zero, List.set_cons_succ]; try go_bits) | (refine plan_any (by rfl) ?_) | (refine plan_keep (by rfl) ?_) | (refine plan_nil ?_) | (with_reducible refine And.intro (by first | assumption | exact Agree.refl _ _ | exact agree_drew _ _ | exact agree_alloc _ (by intro k hk; subst hk; first | omega | (simp; omega))) ?_) | (unfold Act.put; simp only [List.setIfInBounds_toArray, List.set_cons_zero, List.set_cons_succ])
          | (go_at_call 39; refine (HRS.out _).mono ?_; clear HRS; rintro e w3 ⟨rfl, hb3⟩; have HX3 := Lib.hid (HX.out.drew.trans (hb3.mono HX.out.size)); clear hb3)
          | (go_at_call 29; refine (HAW.out _ HX3.out).mono ?_; rintro e w4 ⟨rfl, hb4⟩; have HX4 := Lib.hid (HX3.out.trans (hb4.mono HX3.out.size)); clear hb4))
        go_ret
        exact ⟨rfl, HB0.out.trans (HX4.out.mono HB0.out.size)⟩
  · cases hd1 : decide (i < (s.idx.length : Int))
    · have hc1 := chk_out s i row (by rw [hd0, hd1]; rfl)
      rw [keyO_no (by rw [hc1]; omega), hc1] at HK
      clear hrt hft hc1 hc2 h00 h0 hr0 hm0 hpc hpi hga hf hc12 hi8 hx12 hby0 hby1 hp1 hp8 hi1 hi4 hlen hra hin hn hM hran hfa hpo hko ha
      obtain ⟨x0, x1, x2, x3, x4, x5⟩ := sch_cells HBK.out
      have HX := Lib.hid (Below.refl w0.heap.size w0)
      go_enter Tryd.func12, Tryd.ntmps12
      go_wp2_with fail
      clear hw0 x0 x1 x2 x3 x4 x5
      refine HG.out.mono ?_
      rintro e wn ⟨rfl, hbn⟩
      have HXN := Lib.hid (HX.out.trans (hbn.mono HX.out.size))
      clear hbn HX
      have HX := HXN
      clear HXN
      go_wp2_with fail
      refine (HGR.out _ HX.out).mono ?_
      rintro e wn ⟨rfl, hbn⟩
      have HXN := Lib.hid (HX.out.trans (hbn.mono HX.out.size))
      clear hbn HX
      have HX := HXN
      clear HXN
      obtain ⟨x0, x1, x2, x3, x4, x5⟩ := sch_cells (HBK.out.below HX.out)
      go_wp2_with fail
      clear x0 x1 x2 x3 x4 x5
      refine (HRR.out _ HX.out).mono ?_
      rintro e wn ⟨rfl, hbn⟩
      have HXN := Lib.hid (HX.out.trans (hbn.mono HX.out.size))
      clear hbn HX
      have HX := HXN
      clear HXN
      obtain ⟨x0, x1, x2, x3, x4, x5⟩ := sch_cells (HBK.out.below HX.out)
      go_wp2_with fail
      clear x0 x1 x2 x3 x4 x5
      refine (HRF.out _ HX.out).mono ?_
      rintro e wn ⟨rfl, hbn⟩
      have HXN := Lib.hid (HX.out.trans (hbn.mono HX.out.size))
      clear hbn HX
      have HX := HXN
      clear HXN
      obtain ⟨x0, x1, x2, x3, x4, x5⟩ := sch_cells (HBK.out.below HX.out)
      go_wp2_with fail
      clear x0 x1 x2 x3 x4 x5
      refine (HK.out _ HX.out).mono ?_
      rintro e wn ⟨rfl, hbn⟩
      have HXN := Lib.hid (HX.out.trans (hbn.mono HX.out.size))
      clear hbn HX
      have HX := HXN
      clear HXN
      obtain ⟨x0, x1, x2, x3, x4, x5⟩ := sch_cells (HBK.out.below HX.out)
      go_wp2_with fail
      clear x0 x1 x2 x3 x4 x5
      refine (HKS.out _ HX.out).mono ?_
      rintro e wn ⟨out, rfl, hout, hbn⟩
      have HXN := Lib.hid (HX.out.trans (hbn.mono HX.out.size))
      clear hbn HX
      have HX := HXN
      clear HXN
      obtain ⟨po, co, rfl, hco1, hco2⟩ := hout.form
      have HOUT := Lib.hid hout
      clear hout
      obtain ⟨x0, x1, x2, x3, x4, x5⟩ := sch_cells (HBK.out.below HX.out)
      go_wp2_with fail
      clear x0 x1 x2 x3 x4 x5
      refine (HPT.out _ HX.out).mono ?_
      rintro e wn2 ⟨rfl, hbn⟩
      have HOUT2 := Lib.hid (HOUT.out.below hbn)
      have HXN := Lib.hid (HX.out.trans (hbn.mono HX.out.size))
      clear hbn HX HOUT
      have HX := HXN
      clear HXN
      obtain ⟨x0, x1, x2, x3, x4, x5⟩ := sch_cells (HBK.out.below HX.out)
      go_wp2_with fail
      clear x0 x1 x2 x3 x4 x5
      refine (HFF.out _ HX.out).mono ?_
      rintro e wn3 ⟨rfl, hbn⟩
      have HOUT3 := Lib.hid (HOUT2.out.below hbn)
      have HXN := Lib.hid (HX.out.trans (hbn.mono HX.out.size))
      clear hbn HX HOUT2
      have HX := HXN
      clear HXN
      obtain ⟨x0, x1, x2, x3, x4, x5⟩ := sch_cells (HBK.out.below HX.out)
      go_wp2_with fail
      clear hl0 x0 x1 x2 x3 x4 x5
      go_loopw [17] (fun i wr => ∃ k : Nat, i = .int .i64 k ∧ k ≤ s.idx.length ∧ Below w0.heap.size w0 wr ∧ Sl wr (fun _ => True) 1 (.slice po s.idx.length co) s.idx.length (strC (s.idx.map (skey s.idx row)))) (fun i _ => s.idx.length - (intOf i).toNat)
      case atStart => exact ⟨0, rfl, Nat.zero_le _, HX.out, sl_anyw HOUT3.out⟩
      case round =>
        obtain ⟨k, rfl, hk, hbr, hsl⟩ := hrel
        clear HX HOUT3
        have HX := Lib.hid hbr
        by_cases hka : k < s.idx.length
        · obtain ⟨g1, off1, cap1, hv, _, _, _, hg1, hc1⟩ := hsl.place (by omega)
          cases hv
          have e0 : wr.cell? ⟨g1, off1 + k, none⟩ = some (.string (bs (skey s.idx row s.idx[k]))) := by
            rw [hc1 k (by simpa [strC] using hka)]
            simp [strC, hka]
          have HKR := Lib.hid (fun W hb => HRK.out W hb k hka)
          have hss2 : ((bs (skey s.idx row s.idx[k])).toList == (bs (skey s.idx row s.idx[k])).toList) = true := beq_self_eq_true _
          have HSL := Lib.hid hsl
          have HG1 : Hid (g1 < wr.heap.size) := hg1
          clear hsl hbr hc1
          generalize bs (skey s.idx row s.idx[k]) = S at *
          obtain ⟨x0, x1, x2, x3, x4, x5⟩ := sch_cells (HBK.out.below HX.out)
          have hag : Hid (∀ w3, Below wr.heap.size wr.drew w3 → Agree (fun q => q = g1) wr.drew w3) := fun w3 h q o hq => h.cell (by cases hq; exact HG1.out)
          go_wp2_with fail
          refine wp_region_lit_plan [] [(0, 0), (1, 0), (2, 0), (5, 0), (6, 0), (3, 2), (4, 1), (7, 3), (8, 0)] (fun q => q = g1) (by kernel_rfl) (by kernel_rfl) (fun c a d v w h => by cases d <;> exact h) ?_
          go_wp2_with (first
            | (refine plan_pure (v := _) (by rfl) (by rfl) (by rfl) (by intro _; go_simp; with_reducible rfl) ?_; simp only [List.setIfInBounds_toArray, List.set_cons_zero, List.set_cons_succ]; try go_bits) | (refine plan_read (v := _) (by rfl) (by rfl) (by rfl) (by go_simp; with_reducible rfl) ?_; simp only [List.setIfInBounds_toArray, List.set_cons_zero, List.set_cons_succ]; try go_bits) | (refine plan_readB (v := _) (by rfl) (by rfl) (by rfl) (by intro _ hag; unfold Agree at hag; go_simp; with_reducible rfl) ?_; simp only [List.setIfInBounds_toArray, List.set_cons_zero, List.set_cons_succ]; try go_bits) | (refine plan_skip0 (by rfl) (by rfl) (by rfl) ?_; simp only [List.setIfInBounds_toArray, List.set_cons_zero, List.set_cons_succ]; try go_bits) | (refine plan_skip1 (by rfl) (by rfl) (by rfl) ?_; simp only [List.setIfInBounds_toArray, List.set_cons_zero, List.set_cons_succ]; try go_bits) | (refine plan_skip2 (by rfl) (by rfl) (by rfl) ?_; simp only [List.setIfInBounds_toArray, List.set_cons_zero, List.set_cons_succ]; try go_bits) | (refine plan_skip4 (by rfl) (by rfl) (by rfl) ?_; simp only [List.setIfInBounds_toArray, List.set_cons_zero, List.set_cons_succ]; try go_bits) | (refine plan_any (by rfl) ?_) | (refine plan_keep (by rfl) ?_) | (refine plan_nil ?_) | (with_reducible refine And.intro (by first | assumption | exact Agree.refl _ _ | exact agree_drew _ _ | exact agree_alloc _ (by intro k hk; subst hk; first | omega | (simp; omega))) ?_) | (unfold Act.put; simp only [List.setIfInBounds_toArray, List.set_cons_zero, List.set_cons_succ])
            | (go_at_call 55; refine (HKR.out _ HX.out.drew).mono ?_; clear HKR; rintro e w3 ⟨rfl, hb3⟩; have hag3 := hag.out _ hb3; have HX3 := Lib.hid (HX.out.drew.trans (hb3.mono HX.out.size)); have HS3 := Lib.hid (HSL.out.drew.below hb3); clear hb3))
          go_roundw
          case rel => exact ⟨k + 1, by go_num, by omega, HX3.out, HS3.out⟩
          case measure => (simp [intOf]) <;> omega
        · obtain rfl : k = s.idx.length := by omega
          clear hsl hbr
          obtain ⟨x0, x1, x2, x3, x4, x5⟩ := sch_cells (HBK.out.below HX.out)
          obtain ⟨g, off, cap, hv, hg, e0, e1, e2⟩ := sl_av (HR0.out.below HX.out) hnr
          cases hv
          rw [HAG.out] at e0 e1 e2
          have hpp : (mdN (spT ak an sa) s.parts == mdN (spT ak an sa) s.parts) = true := by simp
          generalize mdN (spT ak an sa) s.parts = z at *
          go_wp2_with fail
          refine wp_region_lit_plan [] [(0, 0), (1, 0), (2, 0), (3, 0), (4, 0), (5, 0), (9, 0), (6, 1), (7, 0), (8, 1), (10, 1), (11, 4), (12, 0), (13, 0), (14, 0), (15, 0), (16, 0), (17, 0), (18, 0), (19, 4), (20, 0), (21, 0)] (fun _ => False) (by kernel_rfl) (by kernel_rfl) (fun c a d v w h => by cases d <;> exact h) ?_
          go_wp2_with (first
            | (refine plan_pure (v := _) (by rfl) (by rfl) (by rfl) (by intro _; go_simp; with_reducible rfl) ?_; simp only [List.setIfInBounds_toArray, List.set_cons_zero, List.set_cons_succ]; try go_bits) | (refine plan_read (v := _) (by rfl) (by rfl) (by rfl) (by go_simp; with_reducible rfl) ?_; simp only [List.setIfInBounds_toArray, List.set_cons_zero, List.set_cons_succ]; try go_bits) | (refine plan_readB (v := _) (by rfl) (by rfl) (by rfl) (by intro _ hag; unfold Agree at hag; go_simp; with_reducible rfl) ?_; simp only [List.setIfInBounds_toArray, List.set_cons_zero, List.set_cons_succ]; try go_bits) | (refine plan_skip0 (by rfl) (by rfl) (by rfl) ?_; simp only [List.setIfInBounds_toArray, List.set_cons_zero, List.set_cons_succ]; try go_bits) | (refine plan_skip1 (by rfl) (by rfl) (by rfl) ?_; simp only [List.setIfInBounds_toArray, List.set_cons_zero, List.set_cons_succ]; try go_bits) | (refine plan_skip2 (by rfl) (by rfl) (by rfl) ?_; simp only [List.setIfInBounds_toArray, List.set_cons_zero, List.set_cons_succ]; try go_bits) | (refine plan_skip4 (by rfl) (by rfl) (by rfl) ?_; simp only [List.setIfInBounds_toArray, List.set_cons_zero, List.set_cons_succ]; try go_bits) | (refine plan_any (by rfl) ?_) | (refine plan_keep (by rfl) ?_) | (refine plan_nil ?_) | (with_reducible refine And.intro (by first | assumption | exact Agree.refl _ _ | exact agree_drew _ _ | exact agree_alloc _ (by intro k hk; subst hk; first | omega | (simp; omega))) ?_) | (unfold Act.put; simp only [List.setIfInBounds_toArray, List.set_cons_zero, List.set_cons_succ])
            | (go_at_call 39; refine (HRS.out _).mono ?_; clear HRS; rintro e w3 ⟨rfl, hb3⟩; have HX3 := Lib.hid (HX.out.drew.trans (hb3.mono HX.out.size)); clear hb3)
            | (go_at_call 29; refine (HAW.out _ HX3.out).mono ?_; rintro e w4 ⟨rfl, hb4⟩; have HX4 := Lib.hid (HX3.out.trans (hb4.mono HX3.out.size)); clear hb4))
          go_ret
          exact ⟨rfl, HB0.out.trans (HX4.out.mono HB0.out.size)⟩
    · have hc1 := chk_ok s i row hrt (by rw [hd0, hd1]; rfl) hft
      obtain ⟨m, hm⟩ : ∃ m : Nat, i = (m : Int) := ⟨i.toNat, by have := of_decide_eq_true hd0; omega⟩
      have hmi : m < s.idx.length := by have := of_decide_eq_true hd1; omega
      have hkm : keyO s i row = skey s.idx row s.idx[m] := by
        unfold keyO
        rw [if_pos hc1, hm, Int.toNat_natCast, List.getElem?_eq_getElem hmi]
      rw [hc1, hkm] at HK
      have HKM := Lib.hid (fun W hb => HRK.out W hb m hmi)
      rw [← hm] at HKM
      have hss2 : ((bs (skey s.idx row s.idx[m])).toList == (bs (skey s.idx row s.idx[m])).toList) = true := beq_self_eq_true _
      generalize bs (skey s.idx row s.idx[m]) = S0 at *
      clear hrt hft hc1 hc2 h00 h0 hr0 hm0 hpc hpi hga hf hc12 hi8 hx12 hby0 hby1 hp1 hp8 hi1 hi4 hlen hra hin hn hM hran hfa hpo hko ha hkm hmi hm
      obtain ⟨x0, x1, x2, x3, x4, x5⟩ := sch_cells HBK.out
      have HX := Lib.hid (Below.refl w0.heap.size w0)
      go_enter Tryd.func12, Tryd.ntmps12
      go_wp2_with fail
      clear hw0 x0 x1 x2 x3 x4 x5
      refine HG.out.mono ?_
      rintro e wn ⟨rfl, hbn⟩
      have HXN := Lib.hid (HX.out.trans (hbn.mono HX.out.size))
      clear hbn HX
      have HX := HXN
      clear HXN
      go_wp2_with fail
      refine (HGR.out _ HX.out).mono ?_
      rintro e wn ⟨rfl, hbn⟩
      have HXN := Lib.hid (HX.out.trans (hbn.mono HX.out.size))
      clear hbn HX
      have HX := HXN
      clear HXN
      obtain ⟨x0, x1, x2, x3, x4, x5⟩ := sch_cells (HBK.out.below HX.out)
      go_wp2_with fail
      clear x0 x1 x2 x3 x4 x5
      refine (HRR.out _ HX.out).mono ?_
      rintro e wn ⟨rfl, hbn⟩
      have HXN := Lib.hid (HX.out.trans (hbn.mono HX.out.size))
      clear hbn HX
      have HX := HXN
      clear HXN
      obtain ⟨x0, x1, x2, x3, x4, x5⟩ := sch_cells (HBK.out.below HX.out)
      go_wp2_with fail
      clear x0 x1 x2 x3 x4 x5
      refine (HRF.out _ HX.out).mono ?_
      rintro e wn ⟨rfl, hbn⟩
      have HXN := Lib.hid (HX.out.trans (hbn.mono HX.out.size))
      clear hbn HX
      have HX := HXN
      clear HXN
      obtain ⟨x0, x1, x2, x3, x4, x5⟩ := sch_cells (HBK.out.below HX.out)
      go_wp2_with fail
      clear x0 x1 x2 x3 x4 x5
      refine (HK.out _ HX.out).mono ?_
      rintro e wn ⟨rfl, hbn⟩
      have HXN := Lib.hid (HX.out.trans (hbn.mono HX.out.size))
      clear hbn HX
      have HX := HXN
      clear HXN
      obtain ⟨x0, x1, x2, x3, x4, x5⟩ := sch_cells (HBK.out.below HX.out)
      go_wp2_with fail
      clear x0 x1 x2 x3 x4 x5
      refine (HKS.out _ HX.out).mono ?_
      rintro e wn ⟨out, rfl, hout, hbn⟩
      have HXN := Lib.hid (HX.out.trans (hbn.mono HX.out.size))
      clear hbn HX
      have HX := HXN
      clear HXN
      obtain ⟨po, co, rfl, hco1, hco2⟩ := hout.form
      have HOUT := Lib.hid hout
      clear hout
      obtain ⟨x0, x1, x2, x3, x4, x5⟩ := sch_cells (HBK.out.below HX.out)
      go_wp2_with fail
      clear x0 x1 x2 x3 x4 x5
      refine (HPT.out _ HX.out).mono ?_
      rintro e wn2 ⟨rfl, hbn⟩
      have HOUT2 := Lib.hid (HOUT.out.below hbn)
      have HXN := Lib.hid (HX.out.trans (hbn.mono HX.out.size))
      clear hbn HX HOUT
      have HX := HXN
      clear HXN
      obtain ⟨x0, x1, x2, x3, x4, x5⟩ := sch_cells (HBK.out.below HX.out)
      go_wp2_with fail
      clear x0 x1 x2 x3 x4 x5
      refine (HFF.out _ HX.out).mono ?_
      rintro e wn3 ⟨rfl, hbn⟩
      have HOUT3 := Lib.hid (HOUT2.out.below hbn)
      have HXN := Lib.hid (HX.out.trans (hbn.mono HX.out.size))
      clear hbn HX HOUT2
      have HX := HXN
      clear HXN
      obtain ⟨x0, x1, x2, x3, x4, x5⟩ := sch_cells (HBK.out.below HX.out)
      go_wp2_with fail
      clear x0 x1 x2 x3 x4 x5
      refine (HKM.out _ HX.out).mono ?_
      rintro e wn4 ⟨rfl, hbn⟩
      have HOUT4 := Lib.hid (HOUT3.out.below hbn)
      have HXN := Lib.hid (HX.out.trans (hbn.mono HX.out.size))
      clear hbn HX HOUT3
      have HX := HXN
      have HOUT3 := HOUT4
      clear HXN HOUT4
      clear hss2
      obtain ⟨x0, x1, x2, x3, x4, x5⟩ := sch_cells (HBK.out.below HX.out)
      go_wp2_with fail
      clear hl0 x0 x1 x2 x3 x4 x5
      go_loopw [17] (fun i wr => ∃ k : Nat, i = .int .i64 k ∧ k ≤ s.idx.length ∧ Below w0.heap.size w0 wr ∧ Sl wr (fun _ => True) 1 (.slice po s.idx.length co) s.idx.length (strC (s.idx.map (skey s.idx row)))) (fun i _ => s.idx.length - (intOf i).toNat)
      case atStart => exact ⟨0, rfl, Nat.zero_le _, HX.out, sl_anyw HOUT3.out⟩
      case round =>
        obtain ⟨k, rfl, hk, hbr, hsl⟩ := hrel
        clear HX HOUT3
        have HX := Lib.hid hbr
        by_cases hka : k < s.idx.length
        · obtain ⟨g1, off1, cap1, hv, _, _, _, hg1, hc1⟩ := hsl.place (by omega)
          cases hv
          have e0 : wr.cell? ⟨g1, off1 + k, none⟩ = some (.string (bs (skey s.idx row s.idx[k]))) := by
            rw [hc1 k (by simpa [strC] using hka)]
            simp [strC, hka]
          have HKR := Lib.hid (fun W hb => HRK.out W hb k hka)
          have hss2 : ((bs (skey s.idx row s.idx[k])).toList == (bs (skey s.idx row s.idx[k])).toList) = true := beq_self_eq_true _
          have HSL := Lib.hid hsl
          have HG1 : Hid (g1 < wr.heap.size) := hg1
          clear hsl hbr hc1
          generalize bs (skey s.idx row s.idx[k]) = S at *
          obtain ⟨x0, x1, x2, x3, x4, x5⟩ := sch_cells (HBK.out.below HX.out)
          have hag : Hid (∀ w3, Below wr.heap.size wr.drew w3 → Agree (fun q => q = g1) wr.drew w3) := fun w3 h q o hq => h.cell (by cases hq; exact HG1.out)
          go_wp2_with fail
          refine wp_region_lit_plan [] [(0, 0), (1, 0), (2, 0), (5, 0), (6, 0), (3, 2), (4, 1), (7, 3), (8, 0)] (fun q => q = g1) (by kernel_rfl) (by kernel_rfl) (fun c a d v w h => by cases d <;> exact h) ?_
          go_wp2_with (first
            | (refine plan_pure (v := _) (by rfl) (by rfl) (by rfl) (by intro _; go_simp; with_reducible rfl) ?_; simp only [List.setIfInBounds_toArray, List.set_cons_zero, List.set_cons_succ]; try go_bits) | (refine plan_read (v := _) (by rfl) (by rfl) (by rfl) (by go_simp; with_reducible rfl) ?_; simp only [List.setIfInBounds_toArray, List.set_cons_zero, List.set_cons_succ]; try go_bits) | (refine plan_readB (v := _) (by rfl) (by rfl) (by rfl) (by intro _ hag; unfold Agree at hag; go_simp; with_reducible rfl) ?_; simp only [List.setIfInBounds_toArray, List.set_cons_zero, List.set_cons_succ]; try go_bits) | (refine plan_skip0 (by rfl) (by rfl) (by rfl) ?_; simp only [List.setIfInBounds_toArray, List.set_cons_zero, List.set_cons_succ]; try go_bits) | (refine plan_skip1 (by rfl) (by rfl) (by rfl) ?_; simp only [List.setIfInBounds_toArray, List.set_cons_zero, List.set_cons_succ]; try go_bits) | (refine plan_skip2 (by rfl) (by rfl) (by rfl) ?_; simp only [List.setIfInBounds_toArray, List.set_cons_zero, List.set_cons_succ]; try go_bits) | (refine plan_skip4 (by rfl) (by rfl) (by rfl) ?_; simp only [List.setIfInBounds_toArray, List.set_cons_zero, List.set_cons_succ]; try go_bits) | (refine plan_any (by rfl) ?_) | (refine plan_keep (by rfl) ?_) | (refine plan_nil ?_) | (with_reducible refine And.intro (by first | assumption | exact Agree.refl _ _ | exact agree_drew _ _ | exact agree_alloc _ (by intro k hk; subst hk; first | omega | (simp; omega))) ?_) | (unfold Act.put; simp only [List.setIfInBounds_toArray, List.set_cons_zero, List.set_cons_succ])
            | (go_at_call 55; refine (HKR.out _ HX.out.drew).mono ?_; clear HKR; rintro e w3 ⟨rfl, hb3⟩; have hag3 := hag.out _ hb3; have HX3 := Lib.hid (HX.out.drew.trans (hb3.mono HX.out.size)); have HS3 := Lib.hid (HSL.out.drew.below hb3); clear hb3))
          go_roundw
          case rel => exact ⟨k + 1, by go_num, by omega, HX3.out, HS3.out⟩
          case measure => (simp [intOf]) <;> omega
        · obtain rfl : k = s.idx.length := by omega
          clear hsl hbr
          obtain ⟨x0, x1, x2, x3, x4, x5⟩ := sch_cells (HBK.out.below HX.out)
          obtain ⟨g, off, cap, hv, hg, e0, e1, e2⟩ := sl_av (HR0.out.below HX.out) hnr
          cases hv
          rw [HAG.out] at e0 e1 e2
          have hpp : (mdN (spT ak an sa) s.parts == mdN (spT ak an sa) s.parts) = true := by simp
          generalize mdN (spT ak an sa) s.parts = z at *
          go_wp2_with fail
          refine wp_region_lit_plan [] [(0, 0), (1, 0), (2, 0), (3, 0), (4, 0), (5, 0), (9, 0), (6, 1), (7, 0), (8, 1), (10, 1), (11, 4), (12, 0), (13, 0), (14, 0), (15, 0), (16, 0), (17, 0), (18, 0), (19, 4), (20, 0), (21, 0)] (fun _ => False) (by kernel_rfl) (by kernel_rfl) (fun c a d v w h => by cases d <;> exact h) ?_
          go_wp2_with (first
            | (refine plan_pure (v := _) (by rfl) (by rfl) (by rfl) (by intro _; go_simp; with_reducible rfl) ?_; simp only [List.setIfInBounds_toArray, List.set_cons_zero, List.set_cons_succ]; try go_bits) | (refine plan_read (v := _) (by rfl) (by rfl) (by rfl) (by go_simp; with_reducible rfl) ?_; simp only [List.setIfInBounds_toArray, List.set_cons_zero, List.set_cons_succ]; try go_bits) | (refine plan_readB (v := _) (by rfl) (by rfl) (by rfl) (by intro _ hag; unfold Agree at hag; go_simp; with_reducible rfl) ?_; simp only [List.setIfInBounds_toArray, List.set_cons_zero, List.set_cons_succ]; try go_bits) | (refine plan_skip0 (by rfl) (by rfl) (by rfl) ?_; simp only [List.setIfInBounds_toArray, List.set_cons_zero, List.set_cons_succ]; try go_bits) | (refine plan_skip1 (by rfl) (by rfl) (by rfl) ?_; simp only [List.setIfInBounds_toArray, List.set_cons_zero, List.set_cons_succ]; try go_bits) | (refine plan_skip2 (by rfl) (by rfl) (by rfl) ?_; simp only [List.setIfInBounds_toArray, List.set_cons_zero, List.set_cons_succ]; try go_bits) | (refine plan_skip4 (by rfl) (by rfl) (by rfl) ?_; simp only [List.setIfInBounds_toArray, List.set_cons_zero, List.set_cons_succ]; try go_bits) | (refine plan_any (by rfl) ?_) | (refine plan_keep (by rfl) ?_) | (refine plan_nil ?_) | (with_reducible refine And.intro (by first | assumption | exact Agree.refl _ _ | exact agree_drew _ _ | exact agree_alloc _ (by intro k hk; subst hk; first | omega | (simp; omega))) ?_) | (unfold Act.put; simp only [List.setIfInBounds_toArray, List.set_cons_zero, List.set_cons_succ])
            | (go_at_call 39; refine (HRS.out _).mono ?_; clear HRS; rintro e w3 ⟨rfl, hb3⟩; have HX3 := Lib.hid (HX.out.drew.trans (hb3.mono HX.out.size)); clear hb3)
            | (go_at_call 29; refine (HAW.out _ HX3.out).mono ?_; rintro e w4 ⟨rfl, hb4⟩; have HX4 := Lib.hid (HX3.out.trans (hb4.mono HX3.out.size)); clear hb4))
          go_ret
          exact ⟨rfl, HB0.out.trans (HX4.out.mono HB0.out.size)⟩
theorem scFits_law (v0 : Value) (s : SchV) (v1 : Value) (row : List AV) (i : Int) (_ : (Lit.int .i64 i).wf = true) (w : World) (hm : Mx w) (h0 : v0 = s.agg ∧ SchAt w (fun _ => True) s ∧ s.read) (h1 : Sl w (fun _ => True) 3 v1 row.length (rowCells row) ∧ ∀ a ∈ row, a.read) :
    Calls Tryd.prog 12 #[v0, v1, .int .i64 i] w fun e w' => e = .returned (.bool true) ∧ Below w.heap.size w w' := by
  obtain ⟨rfl, h2, _⟩ := h0
  exact scFits_walk w hm s v1 row i h2 h1.1 (fun a ha => (h1.2 a ha).2.1)
end Go.Proofs.YtlgohkdckdnmhaaDoor
