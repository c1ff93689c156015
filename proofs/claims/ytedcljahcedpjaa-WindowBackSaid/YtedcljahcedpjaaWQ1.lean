/- Contracts of the functions that the statement reaches, one behind the other. No condition beyond each theorem's own. -/
import Derived.Test.YtedcljahcedpjaaBase
import Derived.Test.YtedcljahcedpjaaProg
import Derived.Test.YtedcljahcedpjaaStr
import Derived.Test.YtedcljahcedpjaaOpen
import Derived.Lib.Hide
import Derived.Lib.SliceRun
import Derived.Test.YtedcljahcedpjaaMemB
import Derived.Laws.Bits64
set_option linter.unusedSimpArgs false
set_option linter.unusedVariables false
/- Values: whether they are right. -/
namespace Go.Proofs.Ytedcljahcedpjaa
open Go.RowKit Go.Afx

def fit64 (n : Int) : Prop := -9223372036854775808 ≤ n ∧ n ≤ 9223372036854775807
/-- A value: its kind, its number, its text. -/
structure AV where
  kind : Int
  n : Int
  s : ByteArray
def AV.cells (v : AV) : List Value := [.int .i64 v.kind, .int .i64 v.n, .string v.s]
def AV.agg (v : AV) : Value := .agg #[.int .i64 v.kind, .int .i64 v.n, .string v.s]
def AV.right (v : AV) : Bool := (v.kind == 1 && v.s.toList.isEmpty) || (v.kind == 2 && v.n == 0 && decide (v.s.size ≤ 200)) || (v.kind == 3 && (v.n == 0 || v.n == 1) && v.s.toList.isEmpty)

set_option maxRecDepth 100000 in
theorem wrong_any (w : World) (v : AV) : Calls Try.prog 70 #[v.agg] w fun e w' => e = .returned (.bool (!v.right)) ∧ Below w.heap.size w w' := by
  obtain ⟨k, n, s⟩ := v
  simp only [AV.agg, AV.right]
  generalize hem : s.toList.isEmpty = em
  by_cases h1 : k = 1
  · subst h1
    have e1 : (!((((1 : Int) == 1) && em) || (((1 : Int) == 2) && n == 0 && decide (s.size ≤ 200)) || (((1 : Int) == 3) && (n == 0 || n == 1) && em))) = !em := by cases em <;> rfl
    rw [e1]
    clear e1
    go_enter Try.func70, Try.ntmps70
    go_wp2
    go_ret
    refine ⟨rfl, ?_⟩
    repeat (with_reducible first | exact Below.refl _ _ | apply Below.drew | (refine Below.alloc ?_ (by first | omega | (simp; omega) | simp) _) | (refine Below.setCell ?_ (by first | omega | (simp; omega) | simp) _))
  · have k1 : (k == 1) = false := by rw [beq_eq_false_iff_ne]; exact h1
    by_cases h2 : k = 2
    · subst h2
      have e1 : (!((((2 : Int) == 1) && em) || (((2 : Int) == 2) && n == 0 && decide (s.size ≤ 200)) || (((2 : Int) == 3) && (n == 0 || n == 1) && em))) = !(n == 0 && decide (s.size ≤ 200)) := by cases em <;> simp
      rw [e1]
      clear e1 hem k1 h1
      by_cases hn : n = 0
      · subst hn
        by_cases hs : s.size ≤ 200
        · have e2 : (!(((0 : Int) == 0) && decide (s.size ≤ 200))) = false := by simp [hs]
          rw [e2]
          have hs2 : decide ((200 : Int) < s.size) = false := decide_eq_false (by omega)
          clear e2
          go_enter Try.func70, Try.ntmps70
          go_wp2
          go_ret
          refine ⟨rfl, ?_⟩
          repeat (with_reducible first | exact Below.refl _ _ | apply Below.drew | (refine Below.alloc ?_ (by first | omega | (simp; omega) | simp) _) | (refine Below.setCell ?_ (by first | omega | (simp; omega) | simp) _))
        · have e2 : (!(((0 : Int) == 0) && decide (s.size ≤ 200))) = true := by simp [hs]
          rw [e2]
          have hs2 : decide ((200 : Int) < s.size) = true := decide_eq_true (by omega)
          clear e2
          go_enter Try.func70, Try.ntmps70
          go_wp2
          go_ret
          refine ⟨rfl, ?_⟩
          repeat (with_reducible first | exact Below.refl _ _ | apply Below.drew | (refine Below.alloc ?_ (by first | omega | (simp; omega) | simp) _) | (refine Below.setCell ?_ (by first | omega | (simp; omega) | simp) _))
      · have hn2 : (n == 0) = false := by rw [beq_eq_false_iff_ne]; exact hn
        have e2 : (!((n == 0) && decide (s.size ≤ 200))) = true := by rw [hn2]; rfl
        rw [e2]
        clear e2
        go_enter Try.func70, Try.ntmps70
        go_wp2
        go_ret
        refine ⟨rfl, ?_⟩
        repeat (with_reducible first | exact Below.refl _ _ | apply Below.drew | (refine Below.alloc ?_ (by first | omega | (simp; omega) | simp) _) | (refine Below.setCell ?_ (by first | omega | (simp; omega) | simp) _))
    · have k2 : (k == 2) = false := by rw [beq_eq_false_iff_ne]; exact h2
      by_cases h3 : k = 3
      · subst h3
        have e1 : (!((((3 : Int) == 1) && em) || (((3 : Int) == 2) && n == 0 && decide (s.size ≤ 200)) || (((3 : Int) == 3) && (n == 0 || n == 1) && em))) = !((n == 0 || n == 1) && em) := by cases em <;> simp
        rw [e1]
        clear e1 k1 k2 h1 h2
        by_cases hn : n = 0 ∨ n = 1
        · have e2 : (!((n == 0 || n == 1) && em)) = !em := by rcases hn with rfl | rfl <;> rfl
          rw [e2]
          have hd : n / 2 = 0 := by omega
          clear e2
          go_enter Try.func70, Try.ntmps70
          go_wp2
          go_ret
          refine ⟨rfl, ?_⟩
          repeat (with_reducible first | exact Below.refl _ _ | apply Below.drew | (refine Below.alloc ?_ (by first | omega | (simp; omega) | simp) _) | (refine Below.setCell ?_ (by first | omega | (simp; omega) | simp) _))
        · have e2 : (!((n == 0 || n == 1) && em)) = true := by
            have a1 : (n == 0) = false := by rw [beq_eq_false_iff_ne]; omega
            have a2 : (n == 1) = false := by rw [beq_eq_false_iff_ne]; omega
            rw [a1, a2]; rfl
          rw [e2]
          have hd : ¬ n / 2 = 0 := by omega
          have hd2 : (n / 2 != 0) = true := by rw [bne_iff_ne]; exact hd
          clear e2 hn
          go_enter Try.func70, Try.ntmps70
          go_wp2
          first | rw [hd2] | skip
          go_ret
          refine ⟨rfl, ?_⟩
          repeat (with_reducible first | exact Below.refl _ _ | apply Below.drew | (refine Below.alloc ?_ (by first | omega | (simp; omega) | simp) _) | (refine Below.setCell ?_ (by first | omega | (simp; omega) | simp) _))
      · have k3 : (k == 3) = false := by rw [beq_eq_false_iff_ne]; exact h3
        rw [k1, k2, k3]
        simp only [Bool.false_and, Bool.or_false, Bool.not_false]
        clear h1 h2 h3
        go_enter Try.func70, Try.ntmps70
        go_wp2
        go_ret
        refine ⟨rfl, ?_⟩
        repeat (with_reducible first | exact Below.refl _ _ | apply Below.drew | (refine Below.alloc ?_ (by first | omega | (simp; omega) | simp) _) | (refine Below.setCell ?_ (by first | omega | (simp; omega) | simp) _))

/-- A row's cells. -/
def rowCells (l : List AV) : List Value := (l.map AV.cells).flatten
theorem rowCells_at (l : List AV) (k r : Nat) (hk : k < l.length) (hr : r < 3) : (rowCells l)[k * 3 + r]? = (l[k].cells)[r]? := by
  have hlen : ∀ c ∈ l.map AV.cells, c.length = 3 := by
    intro c hc
    obtain ⟨a, _, rfl⟩ := List.mem_map.1 hc
    rfl
  unfold rowCells
  rw [flatten_get _ hlen k r hr, List.getElem?_map, List.getElem?_eq_getElem hk]
  rfl
theorem rowCells_length (l : List AV) : (rowCells l).length = l.length * 3 := by
  have hlen : ∀ c ∈ l.map AV.cells, c.length = 3 := by
    intro c hc
    obtain ⟨a, _, rfl⟩ := List.mem_map.1 hc
    rfl
  unfold rowCells
  rw [flatten_length _ hlen, List.length_map]
theorem sl_av {w : World} {B : Nat → Prop} {v : Value} {l : List AV} (h : Sl w B 3 v l.length (rowCells l)) {k : Nat} (hk : k < l.length) :
    ∃ g off cap, v = .slice (some ⟨g, off, none⟩) l.length cap ∧ g < w.heap.size ∧ w.cell? ⟨g, off + k * 3, none⟩ = some (.int .i64 l[k].kind) ∧ w.cell? ⟨g, off + k * 3 + 1, none⟩ = some (.int .i64 l[k].n) ∧ w.cell? ⟨g, off + k * 3 + 2, none⟩ = some (.string l[k].s) := by
  obtain ⟨g, off, cap, hv, _, _, hgb, hglt, hc⟩ := h.place (by omega)
  have get : ∀ r, r < 3 → w.cell? ⟨g, off + (k * 3 + r), none⟩ = (l[k].cells)[r]? := fun r hr => by
    rw [hc _ (by rw [rowCells_length]; omega), rowCells_at l k r hk hr]
  exact ⟨g, off, cap, hv, hglt, get 0 (by omega), get 1 (by omega), get 2 (by omega)⟩

def rightAll (l : List AV) : Bool := l.all AV.right

set_option maxRecDepth 100000 in
theorem index_wrong (w : World) (B : Nat → Prop) (v : Value) (l : List AV) (hl : Sl w B 3 v l.length (rowCells l)) (_ : l.length ≤ 1000000) :
    Calls Try.prog 76 #[v, .func (.func 70) #[] #[]] w fun e w' => ∃ i : Int, e = .returned (.int .i64 i) ∧ decide (0 ≤ i) = !(rightAll l) ∧ Below w.heap.size w w' := by
  obtain ⟨p, cap, rfl, hc1, hc2⟩ := hl.form
  have HL := Lib.hid hl
  clear hl
  go_enter Try.func76, Try.ntmps76
  go_wp2
  go_loopw [8] (fun i wr => ∃ k : Nat, i = .int .i64 k ∧ k ≤ l.length ∧ (l.take k).all AV.right = true ∧ Below w.heap.size w wr) (fun i _ => l.length - (intOf i).toNat)
  case atStart => exact ⟨0, rfl, Nat.zero_le _, rfl, Below.refl _ _⟩
  case round =>
    obtain ⟨k, rfl, hk, hr, hb⟩ := hrel
    have HR := Lib.hid hr
    have HB := Lib.hid hb
    by_cases hka : k < l.length
    · obtain ⟨g, off, cap', hv, hg, e0, e1, e2⟩ := sl_av (HL.out.below hb) hka
      cases hv
      have HX : Hid (∀ b, l[k].right = b → (l.take (k + 1)).all AV.right = b) := fun b hb => by
        rw [← List.take_append_getElem hka, List.all_append, hr]
        simp [hb]
      have HY : Hid (l[k].right = false → rightAll l = false) := fun h => by
        unfold rightAll
        rw [List.all_eq_false]
        exact ⟨l[k], List.getElem_mem hka, by simp [h]⟩
      clear hr hb
      generalize l[k] = x at *
      have HW := Lib.hid (fun w => wrong_any w x)
      have hag : x.agg = .agg #[.int .i64 x.kind, .int .i64 x.n, .string x.s] := rfl
      rw [hag] at HW
      clear hag
      cases hx : x.right
      · rw [hx] at HW
        have HF := Lib.hid (HY.out hx)
        clear HX HY hx
        go_wp2_with (go_at_call 70; refine (HW.out _).mono ?_; rintro e w2 ⟨rfl, hb2⟩)
        go_ret
        refine ⟨_, rfl, ?_, HB.out.trans (hb2.mono HB.out.size)⟩
        rw [HF.out]
        exact decide_eq_true (by omega)
      · rw [hx] at HW
        have HF := Lib.hid (HX.out true hx)
        clear HX HY hx
        go_wp2_with (go_at_call 70; refine (HW.out _).mono ?_; rintro e w2 ⟨rfl, hb2⟩)
        go_roundw
        case rel => exact ⟨k + 1, by go_num, by omega, HF.out, HB.out.trans (hb2.mono HB.out.size)⟩
        case measure => (simp [intOf]) <;> omega
    · obtain rfl : k = l.length := by omega
      rw [List.take_length] at hr
      go_wp2
      go_ret
      refine ⟨-1, rfl, ?_, HB.out⟩
      unfold rightAll
      rw [hr]; rfl

theorem right_any (w : World) (B : Nat → Prop) (v : Value) (l : List AV) (hl : Sl w B 3 v l.length (rowCells l)) (hll : l.length ≤ 1000000) :
    Calls Try.prog 61 #[v] w fun e w' => e = .returned (.bool (rightAll l)) ∧ Below w.heap.size w w' := by
  obtain ⟨p, cap, rfl, hc1, hc2⟩ := hl.form
  have HI := Lib.hid (fun w' (h : Below w.heap.size w w') => index_wrong w' B (.slice p l.length cap) l (hl.below h) hll)
  clear hl
  have HC : Hid (Calls Try.prog 69 #[.slice p l.length cap, .func (.func 70) #[] #[]] w fun e w' => e = .returned (.bool (!(rightAll l))) ∧ Below w.heap.size w w') := by
    generalize rightAll l = b at *
    show Calls _ _ _ _ _
    go_enter Try.func69, Try.ntmps69
    go_wp2_with (go_at_call 76; refine (HI.out _ (Below.refl _ _)).mono ?_; rintro e w2 ⟨i, rfl, hi, hb2⟩)
    go_ret
    exact ⟨rfl, hb2⟩
  cases hb : rightAll l
  all_goals
    rw [hb] at HC
    clear hb HI
    go_enter Try.func61, Try.ntmps61
    go_wp2_with (go_at_call 69; refine HC.out.mono ?_; rintro e w2 ⟨rfl, hb2⟩)
    go_ret
    exact ⟨rfl, hb2⟩
end Go.Proofs.Ytedcljahcedpjaa
/- Rows among rows. -/
namespace Go.Proofs.Ytedcljahcedpjaa
open Go.RowKit Go.Afx

/-- A row among others: its slice, its values. -/
structure RowV where
  v : Value
  l : List AV
def rowVals (rows : List RowV) : List Value := rows.map RowV.v
theorem rowVals_append (a b : List RowV) : rowVals (a ++ b) = rowVals a ++ rowVals b := by simp [rowVals]
/-- Rows that read: a slice of slices, in blocks of B. -/
def RowsAt (w : World) (B : Nat → Prop) (v : Value) (rows : List RowV) : Prop :=
  Sl w B 1 v rows.length (rowVals rows) ∧ ∀ r ∈ rows, Sl w B 3 r.v r.l.length (rowCells r.l)
theorem RowsAt.below {w w' : World} {B : Nat → Prop} {v : Value} {rows : List RowV} (h : RowsAt w B v rows) (hb : Below w.heap.size w w') : RowsAt w' B v rows :=
  ⟨h.1.below hb, fun r hr => (h.2 r hr).below hb⟩
theorem RowsAt.only {w w' : World} {S B : Nat → Prop} {v : Value} {rows : List RowV} (h : RowsAt w B v rows) (hb : Only S w w') (hd : ∀ k, B k → ¬ S k) : RowsAt w' B v rows :=
  ⟨h.1.only hb hd, fun r hr => (h.2 r hr).only hb hd⟩
theorem RowsAt.at {w : World} {B : Nat → Prop} {v : Value} {rows : List RowV} (h : RowsAt w B v rows) {k : Nat} (hk : k < rows.length) :
    ∃ g off cap, v = .slice (some ⟨g, off, none⟩) rows.length cap ∧ w.cell? ⟨g, off + k, none⟩ = some rows[k].v := by
  obtain ⟨g, off, cap, hv, _, _, _, _, hc⟩ := h.1.place (by omega)
  exact ⟨g, off, cap, hv, by rw [hc k (by simpa [rowVals] using hk)]; simp [rowVals, hk]⟩

end Go.Proofs.Ytedcljahcedpjaa
/- Memory: copy into a row of one's own; an own slice's row as a block. -/
namespace Go.Afx
open Go Go.RowKit

section
variable {P : Program} {t e ty : TypeId} {sz bytes : Nat} {z : Value} {w : World}

/-- A row with a piece of it written over. -/
def over (cur news : List Value) (o : Nat) : List Value := cur.take o ++ news ++ cur.drop (o + news.length)
theorem over_length {cur news : List Value} {o : Nat} (h : o + news.length ≤ cur.length) : (over cur news o).length = cur.length := by
  unfold over
  simp only [List.length_append, List.length_take, List.length_drop]
  omega
/-- copy: the first elements of what is read go over the row's, from a place on. -/
theorem run_copy_blk (he : Elem P t e sz bytes z) {g o dLen dCap : Nat} {cur : List Value} (hb : Blk w g e cur) {B : Nat → Prop} {x : Value} {m : Nat} {news : List Value} (hx : Sl w B sz x m news)
    (hfit : o + min m dLen * sz ≤ cur.length) :
    (Builtin.copy_ #[t, t] ty #[.slice (some ⟨g, o, none⟩) dLen dCap, x]).run P w = .ok (.int .i64 (min m dLen : Nat)) (w.setRow g (over cur (news.take (min m dLen * sz)) o).toArray) := by
  obtain ⟨i, hi, hz, hsize, hby⟩ := he.parts
  have ht := he.sl
  subst hsize
  obtain ⟨p, cap, rfl, hc1, hc2⟩ := hx.form
  have hlen := (hx.first (P := P)).2
  have htk := hx.take (m := min m dLen) (Nat.min_le_left _ _)
  have hf := (htk.first (P := P)).1
  have hf2 : (Builtin.firstCells i.size (min m dLen) (.slice p m cap)).run P w = .ok (news.take (min m dLen * i.size)).toArray w := by
    cases p <;> exact hf
  have hnl : (news.take (min m dLen * i.size)).length = min m dLen * i.size := by
    rw [List.length_take, hx.1]
    have : min m dLen * i.size ≤ m * i.size := Nat.mul_le_mul_right _ (Nat.min_le_left _ _)
    omega
  have hst := run_storeCells_at P g o e (news.take (min m dLen * i.size)) 0 cur.toArray w hb (by simp only [List.size_toArray, hnl]; omega) (hx.2.1.take _)
  simp only [Nat.add_zero] at hst
  have hmm : Nat.min m dLen = min m dLen := rfl
  simp only [Builtin.copy_, List.getElem?_toArray, List.getElem?_cons_zero, List.getElem?_cons_succ, Sem.run_bind, run_underlying ht, Result.andThen_ok, hlen, hmm]
  simp [sizeOf, typeInfo, hi, hf2, hst, over, goInt]

/-- copy, where of the source only what goes over is known. -/
theorem run_copy_part (he : Elem P t e sz bytes z) {g o dLen dCap : Nat} {cur : List Value} (hb : Blk w g e cur) {B : Nat → Prop} {p : Option Addr} {m cap q : Nat} {news : List Value} (hq : q = min m dLen) (hx : Sl w B sz (.slice p q cap) q news)
    (hfit : o + q * sz ≤ cur.length) :
    (Builtin.copy_ #[t, t] ty #[.slice (some ⟨g, o, none⟩) dLen dCap, .slice p m cap]).run P w = .ok (.int .i64 (q : Nat)) (w.setRow g (over cur news o).toArray) := by
  obtain ⟨i, hi, hz, hsize, hby⟩ := he.parts
  have ht := he.sl
  subst hsize
  have hlen : (Builtin.lenOf (.slice p m cap)).run P w = .ok m w := by simp [Builtin.lenOf]
  have hf := (hx.first (P := P)).1
  have hf2 : (Builtin.firstCells i.size q (.slice p m cap)).run P w = .ok news.toArray w := by
    cases p <;> exact hf
  have hst := run_storeCells_at P g o e news 0 cur.toArray w hb (by simp only [List.size_toArray, hx.1]; omega) hx.2.1
  simp only [Nat.add_zero] at hst
  have hmm : Nat.min m dLen = q := hq.symm
  simp only [Builtin.copy_, List.getElem?_toArray, List.getElem?_cons_zero, List.getElem?_cons_succ, Sem.run_bind, run_underlying ht, Result.andThen_ok, hlen, hmm]
  simp [sizeOf, typeInfo, hi, hf2, hst, over, goInt]

section steps
variable {ops : Array Oper} {rest : List Oper} {o : Oper} {a : Act} {Q : Exit → Act → World → Prop}
theorem wpList_copy (hgd : o.guard = none) (d x : Operand) (ho : o.op = .call { callee := .builtin .copy, args := #[d, x], argTypes := #[t, t] })
    (he : Elem P t e sz bytes z) {g off dLen dCap : Nat} {cur : List Value} (hd : a.eval d = .slice (some ⟨g, off, none⟩) dLen dCap) (hb : Blk w g e cur) {B : Nat → Prop} {p : Option Addr} {m cap q : Nat} {news : List Value}
    (hxv : a.eval x = .slice p m cap) (hq : q = min m dLen) (hx : Sl w B sz (.slice p q cap) q news) (hfit : off + q * sz ≤ cur.length)
    (h : wpList P ops Q rest (a.put o.dst (.int .i64 (q : Nat))) (w.setRow g (over cur news off).toArray)) : wpList P ops Q (o :: rest) a w := by
  have hr := run_copy_part (P := P) (ty := o.type) he (dCap := dCap) hb hq hx hfit
  refine wpList_plain hgd fun K hK => ?_
  unfold Oper.wp execOp
  simp only [ho, resolve, invoke, builtin, Sem.run_bind, Sem.run_pure, Result.andThen_ok, List.map_toArray, List.map_cons, List.map_nil, hd, hxv, hr]
  exact hK _ _ h
theorem wpList_app_grow (hgd : o.guard = none) (s x : Operand) (ho : o.op = .call { callee := .builtin .append, args := #[s, x], argTypes := #[t, t] })
    {v : Value} (hs : a.eval s = v) {xv : Value} (hx : a.eval x = xv) {v' : Value} {w' : World}
    (hr : (Builtin.append_ #[t, t] o.type #[v, xv]).run P w = .ok v' w')
    (h : wpList P ops Q rest (a.put o.dst v') w') : wpList P ops Q (o :: rest) a w := by
  refine wpList_plain hgd fun K hK => ?_
  unfold Oper.wp execOp
  simp only [ho, resolve, invoke, builtin, Sem.run_bind, Sem.run_pure, Result.andThen_ok, List.map_toArray, List.map_cons, List.map_nil, hs, hx, hr]
  exact hK _ _ h
end steps

/-- append beyond the room: a new row, what was there stays. -/
theorem run_app_grow (he : Elem P t e sz bytes z) {g off n cap : Nat} {cs : List Value} (hown : Own w e sz (.slice (some ⟨g, off, none⟩) n cap) n cs) {B : Nat → Prop} {x : Value} {m : Nat} {news : List Value} (hx : Sl w B sz x m news)
    (hgr : cap < n + m) (h63 : n + m ≤ maxLen) (hb : (n + m) * bytes ≤ 140737488355328) :
    ∃ c w', (Builtin.append_ #[t, t] ty #[.slice (some ⟨g, off, none⟩) n cap, x]).run P w = .ok (.slice (some ⟨w.heap.size, 0, none⟩) (n + m) c) w' ∧ Own w' e sz (.slice (some ⟨w.heap.size, 0, none⟩) (n + m) c) (n + m) (cs ++ news) ∧
      Below w.heap.size w w' ∧ w'.heap.size = w.heap.size + 1 := by
  obtain ⟨i, hi, hz, hsize, hby⟩ := he.parts
  have ht := he.sl
  have hzs := he.zs
  subst hsize
  subst hby
  have hlen : (cs ++ news).length = (n + m) * i.size := by rw [List.length_append, hown.1, hx.1, Nat.add_mul]
  have hones : Ones (cs ++ news) := hown.2.1.append hx.2.1
  have hncap : n ≤ cap := by
    rcases hown.2.2 with ⟨h0, _⟩ | ⟨g2, off2, cap2, cur, hv, hbk, hnc, _⟩
    · cases h0
    · cases hv; exact hnc
  rcases hx.2.2 with ⟨p, cap', rfl, rfl, _, _⟩ | ⟨g', off', cap', rfl, _, _, _, _, hcell⟩
  · omega
  · have holds : ∀ j u, cs[j]? = some u → w.cell? ((⟨g, off, none⟩ : Addr).add j) = some u := by
      have hs := hown.sl (B := fun _ => True) (fun _ _ => trivial)
      rcases hs.2.2 with ⟨_, _, _, h0, _⟩ | ⟨g2, off2, cap2, hv, _, _, _, _, h5⟩
      · have : cs = [] := List.eq_nil_of_length_eq_zero (by rw [hown.1, h0, Nat.zero_mul])
        intro j u hu
        simp [this] at hu
      · cases hv
        exact news_of_sl h5
    have hr := run_append_grow (P := P) w t ty e i z ht hi hz ⟨g, off, none⟩ n cap cs hown.1 holds ⟨g', off', none⟩ m cap' news hx.1 (news_of_sl hcell) (by omega) (by simp only [maxLen] at h63; omega) (growslice_fits (by omega) hb)
    have hge := grownCap_ge w (n + m) cap e
    have hcm : grownCap w (n + m) cap e ≤ maxLen := grownCap_le_maxLen w (n + m) cap e h63
    have hsz2 : (cs ++ news ++ (Builtin.zeroCells z.cells (grownCap w (n + m) cap e - (n + m))).toList).length = grownCap w (n + m) cap e * i.size := by
      rw [List.length_append, hlen, Array.length_toList, size_zeroCells, hzs, ← Nat.add_mul]
      congr 1
      omega
    have h1 := Own.made w.drew e i.size (cs ++ news) (Builtin.zeroCells z.cells (grownCap w (n + m) cap e - (n + m))).toList (n + m) (grownCap w (n + m) cap e) hlen hones hge hcm (by omega)
    have e1 : (cs ++ news ++ (Builtin.zeroCells z.cells (grownCap w (n + m) cap e - (n + m))).toList).toArray = cs.toArray ++ news.toArray ++ Builtin.zeroCells z.cells (grownCap w (n + m) cap e - (n + m)) := by simp
    rw [e1] at h1
    exact ⟨_, _, hr, h1, ((Below.refl _ _).drew).alloc (Nat.le_refl _) _, by simp⟩
/-- A slice cut at the front. -/
theorem Sl.from {B : Nat → Prop} {g off n cap : Nat} {cs : List Value} (h : Sl w B sz (.slice (some ⟨g, off, none⟩) n cap) n cs) {k : Nat} (hk : k ≤ n) :
    Sl w B sz (.slice (some ⟨g, off + k * sz, none⟩) (n - k) (cap - k)) (n - k) (cs.drop (k * sz)) := by
  have hl : (cs.drop (k * sz)).length = (n - k) * sz := by rw [List.length_drop, h.1, Nat.sub_mul]
  refine ⟨hl, fun u hu => h.2.1 u (List.mem_of_mem_drop hu), ?_⟩
  rcases h.2.2 with ⟨p, c, hv, hn, hc, _⟩ | ⟨g', off', cap', hv, a1, a2, a3, a4, a5⟩
  · cases hv
    refine .inl ⟨some ⟨g, off + k * sz, none⟩, cap - k, ?_, by omega, by omega, fun h => by cases h⟩
    have : 0 - k = 0 := by omega
    rw [this]
  · cases hv
    refine .inr ⟨g, off + k * sz, cap - k, rfl, by omega, by omega, a3, a4, fun j hj => ?_⟩
    rw [hl] at hj
    have e1 : off + k * sz + j = off + (k * sz + j) := by omega
    rw [e1, a5 (k * sz + j) (by rw [h.1]; have : k * sz + (n - k) * sz = n * sz := by rw [← Nat.add_mul]; congr 1; omega
                                omega), List.getElem?_drop]
/-- What stands behind a place moves up, something new goes between. -/
theorem over_ins (pre c1 c2 s1 s2 vs : List Value) (h : s1.length = vs.length) :
    over (over (pre ++ (c1 ++ (c2 ++ (s1 ++ s2)))) c2 (pre.length + c1.length + vs.length)) vs (pre.length + c1.length) = pre ++ (c1 ++ (vs ++ (c2 ++ s2))) := by
  have e1 : pre ++ (c1 ++ (c2 ++ (s1 ++ s2))) = (pre ++ c1) ++ (c2 ++ (s1 ++ s2)) := by simp
  have hl : (pre ++ c1).length = pre.length + c1.length := by simp
  have hx : ((pre ++ c1) ++ (c2 ++ (s1 ++ s2))).take (pre.length + c1.length + vs.length) = (pre ++ c1) ++ (c2 ++ (s1 ++ s2)).take vs.length := by
    rw [← hl, List.take_append, List.take_of_length_le (by omega)]
    congr 2
    omega
  have hd : ((pre ++ c1) ++ (c2 ++ (s1 ++ s2))).drop (pre.length + c1.length + vs.length + c2.length) = s2 := by
    have e2 : (pre ++ c1) ++ (c2 ++ (s1 ++ s2)) = (pre ++ c1 ++ c2 ++ s1) ++ s2 := by simp
    rw [e2]
    have e3 : pre.length + c1.length + vs.length + c2.length = (pre ++ c1 ++ c2 ++ s1).length := by simp; omega
    rw [e3, List.drop_left]
  have hin : over (pre ++ (c1 ++ (c2 ++ (s1 ++ s2)))) c2 (pre.length + c1.length + vs.length) = ((pre ++ c1) ++ (c2 ++ (s1 ++ s2)).take vs.length) ++ (c2 ++ s2) := by
    unfold over
    rw [e1, hx, hd]
    simp
  rw [hin]
  unfold over
  have hk : ((c2 ++ (s1 ++ s2)).take vs.length).length = vs.length := by
    rw [List.length_take]; simp; omega
  have ht : (((pre ++ c1) ++ (c2 ++ (s1 ++ s2)).take vs.length) ++ (c2 ++ s2)).take (pre.length + c1.length) = pre ++ c1 := by
    rw [List.append_assoc, ← hl, List.take_left]
  have hdd : (((pre ++ c1) ++ (c2 ++ (s1 ++ s2)).take vs.length) ++ (c2 ++ s2)).drop (pre.length + c1.length + vs.length) = c2 ++ s2 := by
    have e3 : pre.length + c1.length + vs.length = ((pre ++ c1) ++ (c2 ++ (s1 ++ s2)).take vs.length).length := by rw [List.length_append, hk, hl]
    rw [e3, List.drop_left]
  rw [ht, hdd]
  simp
/-- An own row parted: ahead of the slice, its elements, the spare room. -/
theorem row_parts {cur cs : List Value} {off N : Nat} (h : (cur.drop off).take N = cs) (hN : cs.length = N) (ho : off + N ≤ cur.length) : cur = cur.take off ++ (cs ++ cur.drop (off + N)) := by
  subst hN
  have h1 : cur.drop off = cs ++ cur.drop (off + cs.length) := by
    rw [← List.drop_drop]
    conv => lhs; rw [← List.take_append_drop cs.length (cur.drop off), h]
  rw [← h1, List.take_append_drop]
/-- What slices.Insert leaves where there is room. -/
theorem Own.inserted {g off n cap : Nat} {cs cur : List Value} (hown : Own w e sz (.slice (some ⟨g, off, none⟩) n cap) n cs) (hb : Blk w g e cur) (hc : off + cap * sz ≤ cur.length) (ht : (cur.drop off).take (n * sz) = cs)
    {i m : Nat} (hi : i ≤ n) {vs : List Value} (hv : vs.length = m * sz) (hvo : Ones vs) (hroom : n + m ≤ cap) (hcm : cap ≤ maxLen) :
    Own ((w.setRow g (over cur (cs.drop (i * sz)) (off + (i + m) * sz)).toArray).setRow g (over (over cur (cs.drop (i * sz)) (off + (i + m) * sz)) vs (off + i * sz)).toArray) e sz (.slice (some ⟨g, off, none⟩) (n + m) cap) (n + m)
      (cs.take (i * sz) ++ (vs ++ cs.drop (i * sz))) := by
  have hnl : cs.length = n * sz := hown.1
  have h3 : (n + m) * sz ≤ cap * sz := Nat.mul_le_mul_right _ hroom
  rw [Nat.add_mul] at h3
  have hin : i * sz ≤ n * sz := Nat.mul_le_mul_right _ hi
  have hcur := row_parts ht hnl (by omega)
  have hc1 : (cs.take (i * sz)).length = i * sz := by rw [List.length_take]; omega
  have hpre : (cur.take off).length = off := by rw [List.length_take]; omega
  have hs1 : ((cur.drop (off + n * sz)).take (m * sz)).length = vs.length := by rw [List.length_take, List.length_drop, hv]; omega
  have hsplit : cur = cur.take off ++ (cs.take (i * sz) ++ (cs.drop (i * sz) ++ ((cur.drop (off + n * sz)).take (m * sz) ++ (cur.drop (off + n * sz)).drop (m * sz)))) := by
    conv => lhs; rw [hcur]
    rw [List.take_append_drop, ← List.append_assoc (cs.take (i * sz)), List.take_append_drop]
  have hov := over_ins (cur.take off) (cs.take (i * sz)) (cs.drop (i * sz)) ((cur.drop (off + n * sz)).take (m * sz)) ((cur.drop (off + n * sz)).drop (m * sz)) vs hs1
  rw [← hsplit, hpre, hc1, hv] at hov
  have e1 : off + (i + m) * sz = off + i * sz + m * sz := by rw [Nat.add_mul]; omega
  rw [e1, hov]
  have hres : (cs.take (i * sz) ++ (vs ++ cs.drop (i * sz))).length = (n + m) * sz := by
    rw [List.length_append, List.length_append, hc1, hv, List.length_drop, hnl, Nat.add_mul]; omega
  refine ⟨hres, ?_, .inr ⟨g, off, cap, _, rfl, (hb.setRow _).setRow _, hroom, hcm, ?_, ?_⟩⟩
  · intro u hu
    rcases List.mem_append.1 hu with hu | hu
    · exact hown.2.1 u (List.mem_of_mem_take hu)
    · rcases List.mem_append.1 hu with hu | hu
      · exact hvo u hu
      · exact hown.2.1 u (List.mem_of_mem_drop hu)
  · simp only [List.length_append, hpre, hc1, hv, List.length_drop, hnl]
    omega
  · have e4 : (cur.take off ++ (cs.take (i * sz) ++ (vs ++ (cs.drop (i * sz) ++ (cur.drop (off + n * sz)).drop (m * sz))))).drop off = cs.take (i * sz) ++ (vs ++ (cs.drop (i * sz) ++ (cur.drop (off + n * sz)).drop (m * sz))) := by
      conv => lhs; rw [← hpre]
      rw [hpre]
      have := List.drop_left (l₁ := cur.take off) (l₂ := cs.take (i * sz) ++ (vs ++ (cs.drop (i * sz) ++ (cur.drop (off + n * sz)).drop (m * sz))))
      rwa [hpre] at this
    rw [e4]
    have e5 : cs.take (i * sz) ++ (vs ++ (cs.drop (i * sz) ++ (cur.drop (off + n * sz)).drop (m * sz))) = (cs.take (i * sz) ++ (vs ++ cs.drop (i * sz))) ++ (cur.drop (off + n * sz)).drop (m * sz) := by simp
    rw [e5, ← hres, List.take_left]
theorem over_mid (pre cs suf news : List Value) (pos : Nat) (h : pos + news.length ≤ cs.length) : over (pre ++ (cs ++ suf)) news (pre.length + pos) = pre ++ (over cs news pos ++ suf) := by
  unfold over
  have h1 : (pre ++ (cs ++ suf)).take (pre.length + pos) = pre ++ cs.take pos := by
    rw [List.take_append, List.take_of_length_le (by omega)]
    have : pre.length + pos - pre.length = pos := by omega
    rw [this, List.take_append_of_le_length (by omega)]
  have h2 : (pre ++ (cs ++ suf)).drop (pre.length + pos + news.length) = cs.drop (pos + news.length) ++ suf := by
    rw [List.drop_append, List.drop_eq_nil_of_le (by omega), List.nil_append]
    have : pre.length + pos + news.length - pre.length = pos + news.length := by omega
    rw [this, List.drop_append_of_le_length (by omega)]
  rw [h1, h2]
  simp
/-- A piece of an own slice written over. -/
theorem Own.over {g off n cap : Nat} {cs cur : List Value} (hown : Own w e sz (.slice (some ⟨g, off, none⟩) n cap) n cs) (hb : Blk w g e cur) (hc : off + cap * sz ≤ cur.length) (ht : (cur.drop off).take (n * sz) = cs) (hnc : n ≤ cap) (hcm : cap ≤ maxLen)
    {news : List Value} {pos : Nat} (hp : pos + news.length ≤ n * sz) (hno : Ones news) :
    Own (w.setRow g (Afx.over cur news (off + pos)).toArray) e sz (.slice (some ⟨g, off, none⟩) n cap) n (Afx.over cs news pos) ∧ ((Afx.over cur news (off + pos)).drop off).take (n * sz) = Afx.over cs news pos ∧ (Afx.over cur news (off + pos)).length = cur.length := by
  have hnl : cs.length = n * sz := hown.1
  have h3 : n * sz ≤ cap * sz := Nat.mul_le_mul_right _ hnc
  have hcur := row_parts ht hnl (by omega)
  have hpre : (cur.take off).length = off := by rw [List.length_take]; omega
  have hol : (Afx.over cs news pos).length = n * sz := by rw [over_length (by omega), hnl]
  have hov := over_mid (cur.take off) cs (cur.drop (off + n * sz)) news pos (by omega)
  rw [← hcur, hpre] at hov
  have htk : ((Afx.over cur news (off + pos)).drop off).take (n * sz) = Afx.over cs news pos := by
    rw [hov]
    have := List.drop_left (l₁ := cur.take off) (l₂ := Afx.over cs news pos ++ cur.drop (off + n * sz))
    rw [hpre] at this
    rw [this, ← hol, List.take_left]
  have hll := over_length (cur := cur) (news := news) (o := off + pos) (by omega)
  refine ⟨⟨hol, ?_, .inr ⟨g, off, cap, _, rfl, hb.setRow _, hnc, hcm, by rw [hll]; exact hc, htk⟩⟩, htk, hll⟩
  intro u hu
  unfold Afx.over at hu
  rcases List.mem_append.1 hu with hu | hu
  · rcases List.mem_append.1 hu with hu | hu
    · exact hown.2.1 u (List.mem_of_mem_take hu)
    · exact hno u hu
  · exact hown.2.1 u (List.mem_of_mem_drop hu)
theorem over_two (c1 zs vs c2 : List Value) (h : zs.length = vs.length + c2.length) : over (over (c1 ++ zs) vs c1.length) c2 (c1.length + vs.length) = c1 ++ (vs ++ c2) := by
  have h1 : over (c1 ++ zs) vs c1.length = c1 ++ (vs ++ zs.drop vs.length) := by
    unfold over
    rw [List.take_left, List.drop_append, List.drop_eq_nil_of_le (by omega)]
    have : c1.length + vs.length - c1.length = vs.length := by omega
    rw [this]; simp
  rw [h1]
  unfold over
  have e1 : c1 ++ (vs ++ zs.drop vs.length) = (c1 ++ vs) ++ zs.drop vs.length := by simp
  have e2 : c1.length + vs.length = (c1 ++ vs).length := by simp
  rw [e1, e2, List.take_left, List.drop_eq_nil_of_le (by simp; omega)]
  simp
end
end Go.Afx
/- Names: letter, part, named; the document's Named. -/
namespace Go.Proofs.Ytedcljahcedpjaa
open Go.RowKit Go.Afx

def letterB (c : UInt8) : Bool := decide (97 ≤ c.toNat) && decide (c.toNat ≤ 122)
def partB (c : UInt8) : Bool := letterB c || (decide (48 ≤ c.toNat) && decide (c.toNat ≤ 57)) || c.toNat == 95
def namedL : List UInt8 → Bool
  | [] => false
  | c :: t => decide (t.length ≤ 15) && letterB c && t.all partB
def namedB (s : ByteArray) : Bool := namedL s.data.toList
theorem letter_part (c : UInt8) (h : letterB c = true) : partB c = true := by unfold partB; rw [h]; rfl

theorem letter_any (w : World) (c : UInt8) : Calls Try.prog 58 #[.int .u8 (c.toNat : Int)] w fun e w' => e = .returned (.bool (letterB c)) ∧ w = w' := by
  have hc : (c.toNat : Int) < 256 := by have := c.toNat_lt; omega
  have hl : letterB c = (decide ((97 : Int) ≤ (c.toNat : Int)) && decide ((c.toNat : Int) ≤ 122)) := by
    unfold letterB
    congr 1 <;> (rw [Bool.eq_iff_iff]; simp; omega)
  rw [hl]
  have h0 : (0 : Int) ≤ (c.toNat : Int) := by omega
  generalize (c.toNat : Int) = n at *
  clear hl
  by_cases h1 : 97 ≤ n
  · have e1 : decide ((97 : Int) ≤ n) = true := decide_eq_true h1
    rw [e1]
    go_enter Try.func58, Try.ntmps58
    go_wp2
    go_ret
    exact ⟨rfl, rfl⟩
  · have e1 : decide ((97 : Int) ≤ n) = false := decide_eq_false h1
    rw [e1]
    go_enter Try.func58, Try.ntmps58
    go_wp2
    go_ret
    exact ⟨rfl, rfl⟩

theorem part_any (w : World) (c : UInt8) : Calls Try.prog 59 #[.int .u8 (c.toNat : Int)] w fun e w' => e = .returned (.bool (partB c)) ∧ w = w' := by
  have HL := Lib.hid (letter_any w c)
  have hc : (c.toNat : Int) < 256 := by have := c.toNat_lt; omega
  have hp : partB c = (letterB c || (decide ((48 : Int) ≤ (c.toNat : Int)) && decide ((c.toNat : Int) ≤ 57)) || ((c.toNat : Int) == 95)) := by
    unfold partB
    congr 1
    · congr 1
      congr 1 <;> (rw [Bool.eq_iff_iff]; simp; omega)
    · rw [Bool.eq_iff_iff]; simp; omega
  rw [hp]
  have h0 : (0 : Int) ≤ (c.toNat : Int) := by omega
  generalize letterB c = lb at *
  generalize (c.toNat : Int) = n at *
  clear hp
  cases lb
  · by_cases h1 : 48 ≤ n
    · have e1 : decide ((48 : Int) ≤ n) = true := decide_eq_true h1
      by_cases h2 : n ≤ 57
      · have e2 : decide (n ≤ 57) = true := decide_eq_true h2
        rw [e1, e2]
        go_enter Try.func59, Try.ntmps59
        go_wp2_with (go_at_call 58; refine HL.out.mono ?_; rintro e w2 ⟨rfl, rfl⟩)
        go_ret
        exact ⟨rfl, rfl⟩
      · have e2 : decide (n ≤ 57) = false := decide_eq_false h2
        rw [e1, e2]
        go_enter Try.func59, Try.ntmps59
        go_wp2_with (go_at_call 58; refine HL.out.mono ?_; rintro e w2 ⟨rfl, rfl⟩)
        go_ret
        exact ⟨rfl, rfl⟩
    · have e1 : decide ((48 : Int) ≤ n) = false := decide_eq_false h1
      rw [e1]
      go_enter Try.func59, Try.ntmps59
      go_wp2_with (go_at_call 58; refine HL.out.mono ?_; rintro e w2 ⟨rfl, rfl⟩)
      go_ret
      exact ⟨rfl, rfl⟩
  · go_enter Try.func59, Try.ntmps59
    go_wp2_with (go_at_call 58; refine HL.out.mono ?_; rintro e w2 ⟨rfl, rfl⟩)
    go_ret
    exact ⟨rfl, rfl⟩

theorem named_any (w : World) (s : ByteArray) (hs : s.size ≤ maxLen) : Calls Try.prog 44 #[.string s] w fun e w' => e = .returned (.bool (namedB s)) ∧ Below w.heap.size w w' := by
  obtain ⟨l, hl⟩ : ∃ l, s.data.toList = l := ⟨_, rfl⟩
  have hsz := size_list s l hl
  have hem := toList_list s l hl
  have hN : namedB s = namedL l := by unfold namedB; rw [hl]
  rw [hN]
  have HG := Lib.hid (get_list s l hl)
  have kc : ∀ w, (convert 9 88 (.string s)).run Try.prog w = .ok (.slice (some ⟨w.heap.size, 0, none⟩) s.size (cvCap w s 5)) (cvW w s 5) := fun w => run_cv w _ _ _ s Try.underlying9 Try.underlying88 Try.underlying5
  unfold maxLen at hs
  cases l with
  | nil =>
    have e1 : s.toList.isEmpty = true := hem
    clear kc hem HG hN hl
    go_enter Try.func44, Try.ntmps44
    go_wp2
    go_ret
    exact ⟨rfl, Below.refl _ _⟩
  | cons c t =>
    have e1 : s.toList.isEmpty = false := hem
    rw [List.length_cons] at hsz
    have hg0 : ∀ (h : 0 < s.size), ((s[0]'h).toNat : Int) = (c.toNat : Int) := fun h => by rw [HG.out 0 h (by simp)]; rfl
    have h0s : 0 < s.size := by omega
    have hg1 := hg0 h0s
    have HLT := Lib.hid (fun w => letter_any w c)
    by_cases h16 : 15 < t.length
    · have e2 : decide ((16 : Int) < s.size) = true := decide_eq_true (by omega)
      have e3 : namedL (c :: t) = false := by show (decide (t.length ≤ 15) && letterB c && t.all partB) = false; rw [decide_eq_false (by omega)]; rfl
      rw [e3]
      clear kc hem HG hN hl e3
      go_enter Try.func44, Try.ntmps44
      go_wp2
      go_ret
      exact ⟨rfl, Below.refl _ _⟩
    · have e2 : decide ((16 : Int) < s.size) = false := decide_eq_false (by omega)
      have e3 : namedL (c :: t) = (letterB c && t.all partB) := by show (decide (t.length ≤ 15) && letterB c && t.all partB) = _; rw [decide_eq_true (by omega)]; rfl
      cases hlb : letterB c
      · have e4 : namedL (c :: t) = false := by rw [e3, hlb]; rfl
        rw [e4]
        rw [hlb] at HLT
        clear kc hem HG hN hl e3 e4 hlb
        go_enter Try.func44, Try.ntmps44
        go_wp2_with (go_at_call 58; refine (HLT.out _).mono ?_; rintro e w2 ⟨rfl, rfl⟩)
        go_ret
        exact ⟨rfl, Below.refl _ _⟩
      · have e4 : namedL (c :: t) = (c :: t).all partB := by rw [e3, hlb, List.all_cons, letter_part c hlb]
        rw [e4]
        rw [hlb] at HLT
        have HC : Hid (∀ k (h : k < (c :: t).length), (cvW w s 5).cell? ⟨w.heap.size, k, none⟩ = some (.int .u8 ((c :: t)[k].toNat : Int))) := fun k h => cvW_cell w s _ _ hl k h
        have HB : Hid (Below w.heap.size w (cvW w s 5)) := cvW_below w s _
        have hs2 : s.size = (c :: t).length := by rw [List.length_cons]; exact hsz
        have hl17 : (c :: t).length ≤ 16 := by rw [List.length_cons]; omega
        clear hem HG hN hl e3 e4 hlb hsz h16
        generalize (c :: t) = l at *
        go_enter Try.func44, Try.ntmps44
        go_wp2_with (go_at_call 58; refine (HLT.out _).mono ?_; rintro e w2 ⟨rfl, rfl⟩)
        clear kc hg0 hg1 e1 e2
        go_loop [21] (fun i => ∃ k : Nat, i = .int .i64 k ∧ k ≤ l.length ∧ (l.take k).all partB = true) (fun i => l.length - (intOf i).toNat)
        case atStart => exact ⟨0, rfl, Nat.zero_le _, rfl⟩
        case round =>
          obtain ⟨k, rfl, hk, hr⟩ := hrel
          by_cases hka : k < l.length
          · have hck := HC.out k hka
            have HX : Hid (∀ b, partB l[k] = b → (l.take (k + 1)).all partB = b) := fun b hb => by
              rw [← List.take_append_getElem hka, List.all_append, hr]
              simp [hb]
            have HY : Hid (partB l[k] = false → l.all partB = false) := fun h => by
              rw [List.all_eq_false]
              exact ⟨l[k], List.getElem_mem hka, by simp [h]⟩
            have HP := Lib.hid (fun w => part_any w l[k])
            clear hr
            generalize l[k] = x at *
            cases hx : partB x
            · rw [hx] at HP
              have HF := Lib.hid (HY.out hx)
              clear hx HX HY
              go_wp2_with (go_at_call 59; refine (HP.out _).mono ?_; rintro e w2 ⟨rfl, rfl⟩)
              go_ret
              exact ⟨by rw [HF.out]; rfl, HB.out⟩
            · rw [hx] at HP
              have HF := Lib.hid (HX.out true hx)
              clear hx HX HY
              go_wp2_with (go_at_call 59; refine (HP.out _).mono ?_; rintro e w2 ⟨rfl, rfl⟩)
              go_round
              case rel => exact ⟨k + 1, by go_num, by omega, HF.out⟩
              case measure => (simp [intOf]) <;> omega
          · obtain rfl : k = l.length := by omega
            rw [List.take_length] at hr
            have HR := Lib.hid hr
            clear hr
            go_wp2
            go_ret
            exact ⟨by rw [HR.out]; rfl, HB.out⟩
end Go.Proofs.Ytedcljahcedpjaa
/- Names: the document's Named. -/
namespace Go.Proofs.Ytedcljahcedpjaa
open Go.RowKit Go.Afx

/-- What the document asks of the byte at a place. -/
def nameAt (k : Nat) (c : UInt8) : Bool := letterB c || (decide (k ≠ 0) && partB c)
theorem namedL_at (l : List UInt8) (h1 : 1 ≤ l.length) (h16 : l.length ≤ 16) (h : ∀ k (hk : k < l.length), nameAt k l[k] = true) : namedL l = true := by
  cases l with
  | nil => simp at h1
  | cons c t =>
    show (decide (t.length ≤ 15) && letterB c && t.all partB) = true
    have h0 := h 0 (by simp)
    simp only [List.length_cons] at h16
    have hl : letterB c = true := by simpa [nameAt] using h0
    rw [decide_eq_true (by omega), hl, List.all_eq_true.2]
    · rfl
    · intro x hx
      obtain ⟨k, hk, rfl⟩ := List.getElem_of_mem hx
      have := h (k + 1) (by simp; omega)
      unfold nameAt at this
      rw [List.getElem_cons_succ] at this
      simp at this
      rcases this with h | h
      · exact letter_part _ h
      · exact h
theorem namedL_not (l : List UInt8) (k : Nat) (hk : k < l.length) (h : nameAt k l[k] = false) : namedL l = false := by
  cases l with
  | nil => rfl
  | cons c t =>
    show (decide (t.length ≤ 15) && letterB c && t.all partB) = false
    unfold nameAt at h
    rw [Bool.or_eq_false_iff] at h
    cases k with
    | zero =>
      rw [List.getElem_cons_zero] at h
      rw [h.1]; simp
    | succ k =>
      rw [List.getElem_cons_succ] at h
      have : t.all partB = false := by
        rw [List.all_eq_false]
        exact ⟨t[k]'(by simpa using hk), List.getElem_mem _, by have := h.2; simp at this; simp [this]⟩
      rw [this]; simp

set_option maxRecDepth 100000 in
set_option maxHeartbeats 1000000 in
theorem refnamed (w : World) (s : ByteArray) (hs : s.size ≤ maxLen) : Calls Try.prog 27 #[.string s] w fun e w' => e = .returned (.bool (namedB s)) ∧ w = w' := by
  obtain ⟨l, hl⟩ : ∃ l, s.data.toList = l := ⟨_, rfl⟩
  have hsz := size_list s l hl
  have hN : namedB s = namedL l := by unfold namedB; rw [hl]
  rw [hN]
  have HG := Lib.hid (get_list s l hl)
  unfold maxLen at hs
  clear hN hl
  by_cases h1 : s.size < 1
  · have e1 : decide ((s.size : Int) < 1) = true := decide_eq_true (by omega)
    obtain rfl : l = [] := List.eq_nil_of_length_eq_zero (by omega)
    go_enter Try.func27, Try.ntmps27
    go_wp2
    go_ret
    exact ⟨rfl, rfl⟩
  have e1 : decide ((s.size : Int) < 1) = false := decide_eq_false (by omega)
  by_cases h16 : 16 < s.size
  · have e2 : decide ((16 : Int) < s.size) = true := decide_eq_true (by omega)
    have e3 : namedL l = false := by
      cases l with
      | nil => rfl
      | cons c t =>
        rw [List.length_cons] at hsz
        show (decide (t.length ≤ 15) && letterB c && t.all partB) = false
        rw [decide_eq_false (by omega)]; rfl
    rw [e3]
    clear e3
    go_enter Try.func27, Try.ntmps27
    go_wp2
    go_ret
    exact ⟨rfl, rfl⟩
  have e2 : decide ((16 : Int) < s.size) = false := decide_eq_false (by omega)
  have HT : Hid ((∀ k (hk : k < l.length), nameAt k l[k] = true) → namedL l = true) := fun h => namedL_at l (by omega) (by omega) h
  have HF : Hid (∀ k (hk : k < l.length), nameAt k l[k] = false → namedL l = false) := fun k hk h => namedL_not l k hk h
  have hlen : l.length ≤ 16 := by omega
  have HSZ := Lib.hid hsz
  clear h1 h16 hsz
  go_enter Try.func27, Try.ntmps27
  go_wp2
  clear e1 e2
  go_loop [3] (fun i => ∃ k : Nat, i = .int .i64 k ∧ k ≤ l.length ∧ ∀ j (hj : j < l.length), j < k → nameAt j l[j] = true) (fun i => l.length - (intOf i).toNat)
  case atStart => exact ⟨0, rfl, Nat.zero_le _, fun j _ h => absurd h (Nat.not_lt_zero _)⟩
  case round =>
    obtain ⟨k, rfl, hk, hr⟩ := hrel
    have HR := Lib.hid hr
    clear hr
    have hks : (s.size : Int) = l.length := by rw [HSZ.out]
    by_cases hka : k < l.length
    · have hki : (k : Int) < s.size := by omega
      have hks2 : k < s.size := by omega
      have hg : ((s[k]'hks2).toNat : Int) = (l[k].toNat : Int) := by rw [HG.out k hks2 hka]
      have HX : Hid (nameAt k l[k] = true → ∀ j (hj : j < l.length), j < k + 1 → nameAt j l[j] = true) := fun h j hj hjk => by
        rcases Nat.lt_or_ge j k with h2 | h2
        · exact HR.out j hj h2
        · obtain rfl : j = k := by omega
          exact h
      have HY := Lib.hid (HF.out k hka)
      have hna : nameAt k l[k] = ((decide ((97 : Int) ≤ (l[k].toNat : Int)) && decide ((l[k].toNat : Int) ≤ 122)) || (decide ((k : Int) ≠ 0) && ((decide ((48 : Int) ≤ (l[k].toNat : Int)) && decide ((l[k].toNat : Int) ≤ 57)) || ((l[k].toNat : Int) == 95)))) := by
        have hl : letterB l[k] = (decide ((97 : Int) ≤ (l[k].toNat : Int)) && decide ((l[k].toNat : Int) ≤ 122)) := by
          unfold letterB
          congr 1 <;> (rw [Bool.eq_iff_iff]; simp; omega)
        have hp : (decide (48 ≤ l[k].toNat) && decide (l[k].toNat ≤ 57)) = (decide ((48 : Int) ≤ (l[k].toNat : Int)) && decide ((l[k].toNat : Int) ≤ 57)) := by congr 1 <;> (rw [Bool.eq_iff_iff]; simp; omega)
        have hq : (l[k].toNat == 95) = ((l[k].toNat : Int) == 95) := by rw [Bool.eq_iff_iff]; simp; omega
        have hz : decide (k ≠ 0) = decide ((k : Int) ≠ 0) := by rw [Bool.eq_iff_iff]; simp
        unfold nameAt partB
        rw [hl, hp, hq, hz]
        generalize (decide ((97 : Int) ≤ (l[k].toNat : Int)) && decide ((l[k].toNat : Int) ≤ 122)) = a
        generalize decide ((k : Int) ≠ 0) = b
        cases a <;> cases b <;> rfl
      have hc : (l[k].toNat : Int) < 256 := by have := l[k].toNat_lt; omega
      have hc0 : (0 : Int) ≤ (l[k].toNat : Int) := by omega
      rw [hna] at HX HY
      clear hna
      generalize (l[k].toNat : Int) = c at *
      cases a1 : decide ((97 : Int) ≤ c) <;> cases a2 : decide (c ≤ 122) <;> cases a3 : decide ((48 : Int) ≤ c) <;> cases a4 : decide (c ≤ 57) <;> cases a5 : (c == 95) <;> (first | (exfalso; simp at a1 a2 a3 a4 a5; omega) | skip)
      all_goals
        rw [a1, a2, a3, a4, a5] at HX HY
        have b5 : (c != 95) = !(c == 95) := rfl
        rw [a5] at b5
        simp only [Bool.not_true, Bool.not_false] at b5
        rcases Nat.eq_zero_or_pos k with hk0 | hk0
      all_goals
        first
          | subst hk0
          | (have hkb : ((k : Int) == 0) = false := beq_eq_false_iff_ne.2 (by omega); have hkd : decide ((k : Int) ≠ 0) = true := decide_eq_true (by omega); rw [hkd] at HX HY; clear hkd)
        go_wp2
        first
          | (go_ret; exact ⟨by rw [HY.out (by simp)]; rfl, rfl⟩)
          | (go_round;
             case rel => exact ⟨_, by go_num, by omega, HX.out (by simp)⟩
             case measure => (simp [intOf]) <;> omega)
    · obtain rfl : k = l.length := by omega
      have e1 := HT.out (fun j hj => HR.out j hj hj)
      have E1 := Lib.hid e1
      clear e1
      go_wp2
      go_ret
      exact ⟨by rw [E1.out]; rfl, rfl⟩
end Go.Proofs.Ytedcljahcedpjaa
/- Bytes that are laid one behind the other. -/
namespace Go.Proofs.Ytedcljahcedpjaa
open Go.RowKit Go.Afx

/-- The bytes l, kept in the first cell of the block b, in memory of their own; F: all that they lie in. -/
def Buf (w : World) (t : TypeId) (b : Nat) (F : Nat → Prop) (rest : List Value) (l : List UInt8) : Prop :=
  ∃ bv, Blk w b t (bv :: rest) ∧ Own w 5 1 bv l.length (by8 l) ∧ F b ∧ (∀ k, bv.ownBlock = some k → F k ∧ k ≠ b)

theorem Buf.only {w w' : World} {t : TypeId} {b : Nat} {F S : Nat → Prop} {rest : List Value} {l : List UInt8} (h : Buf w t b F rest l) (ho : Only S w w') (hd : ∀ k, F k → ¬ S k) : Buf w' t b F rest l := by
  obtain ⟨bv, h1, h2, h3, h4⟩ := h
  exact ⟨bv, h1.only ho (hd b h3), h2.only ho (fun k hk => hd k (h4 k hk).1), h3, h4⟩
theorem Buf.below {w w' : World} {t : TypeId} {b : Nat} {F : Nat → Prop} {rest : List Value} {l : List UInt8} (h : Buf w t b F rest l) (hb : Below w.heap.size w w') : Buf w' t b F rest l := by
  obtain ⟨bv, h1, h2, h3, h4⟩ := h
  exact ⟨bv, h1.below hb, h2.below hb, h3, h4⟩

theorem own_form2 {w : World} {e : TypeId} {sz : Nat} {v : Value} {n : Nat} {cs : List Value} (h : Own w e sz v n cs) : ∃ p cap, v = .slice p n cap ∧ n ≤ cap ∧ cap ≤ 9223372036854775807 :=
  (h.sl (B := fun _ => True) fun _ _ => trivial).form

set_option maxRecDepth 100000 in
theorem lay_any (w : World) (t : TypeId) (b : Nat) (F : Nat → Prop) (rest : List Value) (l : List UInt8) (hb : Buf w t b F rest l) (B : Nat → Prop) (v : Value) (x : List UInt8) (hx : Sl w B 1 v x.length (by8 x)) (hlen : l.length + x.length ≤ 1000000000) :
    Calls Try.prog 64 #[.pointer (some ⟨b, 0, none⟩), v] w fun e w' => e = .returned (.tuple #[]) ∧ ∃ F', Buf w' t b F' rest (l ++ x) ∧ Only F w w' ∧ ∀ k, F' k → F k ∨ w.heap.size ≤ k := by
  obtain ⟨bv, h1, h2, h3, h4⟩ := hb
  obtain ⟨p1, c1, rfl, hc1, hc2⟩ := own_form2 h2
  obtain ⟨p2, c2, rfl, hc3, hc4⟩ := hx.form
  have k0 : w.cell? ⟨b, 0, none⟩ = some (.slice p1 l.length c1) := h1.cell 0
  have hf : ∀ i, w.frozen? ⟨b, i, none⟩ = false := h1.frozen
  have H1 := Lib.hid h1
  have H4 := Lib.hid h4
  have H3 := Lib.hid h3
  clear h1 h3 h4
  go_enter Try.func64, Try.ntmps64
  go_wp2_with (first
    | (at_builtin; refine wpList_app rfl _ _ rfl elemU8 (by rfl) h2 (by rfl) hx (by unfold maxLen; omega) (by omega) ?_; intro v1 w2 g1 g2 g3 g4 g5; clear h2 hx; obtain ⟨p7, c7, rfl, hc71, hc72⟩ := own_form2 g1;
       have HK2 := Lib.hid (H1.out.only g2 (fun h => (H4.out _ h).2 rfl));
       have j1 : w2.cell? ⟨b, 0, none⟩ = some (.slice p1 l.length c1) := HK2.out.cell 0; have jf : ∀ i, w2.frozen? ⟨b, i, none⟩ = false := HK2.out.frozen;
       have G1 := Lib.hid g1; have G2 := Lib.hid g2; have G3 := Lib.hid g3; clear g1 g2 g3 g4 g5))
  go_end0
  have hlt := H1.out.lt
  have hnb : ∀ k, (Value.slice p7 (l.length + x.length) c7).ownBlock = some k → k ≠ b := fun k hk he => by
    subst he
    rcases G3.out with h | h
    · exact (H4.out k (by rw [← h]; exact hk)).2 rfl
    · rw [h] at hk
      have : w.heap.size = k := by simpa using hk
      omega
  refine ⟨rfl, fun k => F k ∨ (Value.slice p7 (l.length + x.length) c7).ownBlock = some k, ⟨_, HK2.out.set 0 _, ?_, .inl H3.out, fun k hk => ⟨.inr hk, hnb k hk⟩⟩, ?_, fun k hk => ?_⟩
  · have h9 := G1.out.setOther (p := ⟨b, 0, none⟩) (fun h => hnb _ h rfl) (.slice p7 (l.length + x.length) c7)
    rw [List.length_append, by8_append]
    exact h9
  · exact (G2.out.mono (fun k _ h => (H4.out k h).1)).setCell (fun _ => H3.out) _
  · rcases hk with hk | hk
    · exact .inl hk
    · rcases G3.out with h | h
      · exact .inl (H4.out k (by rw [← h]; exact hk)).1
      · rw [h] at hk
        have : w.heap.size = k := by simpa using hk
        exact .inr (by omega)
end Go.Proofs.Ytedcljahcedpjaa
/- Numbers, laid. -/
namespace Go.Proofs.Ytedcljahcedpjaa
open Go.RowKit Go.Afx

/-- A number's bytes, the highest first. -/
def be256 (u : Nat) : List UInt8 := if _h : u = 0 then [] else be256 (u / 256) ++ [UInt8.ofNat (u % 256)]
decreasing_by exact Nat.div_lt_self (by omega) (by omega)
theorem be_zero : be256 0 = [] := by rw [be256]; simp
theorem be_pos (u : Nat) (h : 0 < u) : be256 u = be256 (u / 256) ++ [UInt8.ofNat (u % 256)] := by rw [be256, dif_neg (by omega)]
def numB (u : Nat) : List UInt8 := UInt8.ofNat (be256 u).length :: be256 u
theorem be_len_le (k : Nat) : ∀ u, u < 256 ^ k → (be256 u).length ≤ k := by
  induction k with
  | zero => intro u hu; obtain rfl : u = 0 := by simpa using hu
            rw [be_zero]; simp
  | succ k ih =>
    intro u hu
    rcases Nat.eq_zero_or_pos u with h | h
    · subst h; rw [be_zero]; simp
    · rw [be_pos u h, List.length_append]
      have := ih (u / 256) (Nat.div_lt_of_lt_mul (by rw [Nat.pow_succ] at hu; omega))
      simpa using this
theorem be_len_ge (k : Nat) : ∀ u, 256 ^ k ≤ u → k + 1 ≤ (be256 u).length := by
  induction k with
  | zero => intro u hu; rw [be_pos u (by simp at hu; omega)]; simp
  | succ k ih =>
    intro u hu
    have hp : 0 < 256 ^ (k + 1) := Nat.pow_pos (by omega)
    rw [be_pos u (by omega), List.length_append]
    have h1 : 256 ^ k ≤ u / 256 := by
      rw [Nat.le_div_iff_mul_le (by omega)]
      rw [Nat.pow_succ] at hu; exact hu
    have := ih (u / 256) h1
    simpa using this
/-- The byte at a place, counted from the last one. -/
theorem be_get : ∀ (i u : Nat) (h : i < (be256 u).length), (be256 u)[(be256 u).length - 1 - i]'(by omega) = UInt8.ofNat (u / 256 ^ i % 256) := by
  intro i
  induction i with
  | zero =>
    intro u h
    rcases Nat.eq_zero_or_pos u with h0 | h0
    · subst h0; rw [be_zero] at h; simp at h
    · have e := be_pos u h0
      have : ∀ (l : List UInt8) (hl : l = be256 (u / 256) ++ [UInt8.ofNat (u % 256)]) (hlt : l.length - 1 - 0 < l.length), l[l.length - 1 - 0] = UInt8.ofNat (u % 256) := by
        intro l hl hlt
        subst hl
        simp
      rw [this _ e (by omega)]
      simp
  | succ i ih =>
    intro u h
    rcases Nat.eq_zero_or_pos u with h0 | h0
    · subst h0; rw [be_zero] at h; simp at h
    · have e := be_pos u h0
      have hl : (be256 u).length = (be256 (u / 256)).length + 1 := by rw [e]; simp
      have h2 : i < (be256 (u / 256)).length := by omega
      have h3 := ih (u / 256) h2
      have : ∀ (l : List UInt8) (hl2 : l = be256 (u / 256) ++ [UInt8.ofNat (u % 256)]) (j : Nat) (hj : j = (be256 (u / 256)).length - 1 - i) (hlt : j < l.length), l[j] = (be256 (u / 256))[(be256 (u / 256)).length - 1 - i]'(by omega) := by
        intro l hl2 j hj hlt
        subst hl2
        subst hj
        rw [List.getElem_append_left (by omega)]
      rw [this _ e _ (by omega) (by omega), h3, Nat.div_div_eq_div_mul, Nat.pow_succ, Nat.mul_comm]

theorem shr_nat (u k : Nat) : (u : Int) / 2 ^ (8 * k) = ((u / 256 ^ k : Nat) : Int) := by
  have e : (2 : Int) ^ (8 * k) = ((256 ^ k : Nat) : Int) := by
    have e1 : (256 : Nat) ^ k = 2 ^ (8 * k) := by rw [Nat.pow_mul]
    rw [e1, Int.natCast_pow]; rfl
  rw [e, Int.natCast_ediv]
theorem one_u8 (w : World) (x : Nat) (hx : x < 256) : Sl (w.alloc (.cells #[.int .u8 (x : Int)] 5)) (fun _ => True) 1 (.slice (some ⟨w.heap.size, 0, none⟩) 1 1) [UInt8.ofNat x].length (by8 [UInt8.ofNat x]) := by
  have e : by8 [UInt8.ofNat x] = [.int .u8 (x : Int)] := by
    have h : (UInt8.ofNat x).toNat = x := by rw [UInt8.toNat_ofNat']; omega
    simp [by8, h]
  rw [e]
  exact (Own.made w 5 1 [.int .u8 (x : Int)] [] 1 1 rfl (Ones.nil.cons rfl) (Nat.le_refl _) (by simp [maxLen]) (by simp)).sl (fun _ _ => trivial)
/-- One byte, laid: beside a new row that holds it. -/
theorem lay_one (w : World) (t : TypeId) (b : Nat) (F : Nat → Prop) (rest : List Value) (l : List UInt8) (hb : Buf w t b F rest l) (x : Nat) (hx : x < 256) (hlen : l.length ≤ 950000000) :
    Calls Try.prog 64 #[.pointer (some ⟨b, 0, none⟩), .slice (some ⟨w.heap.size, 0, none⟩) 1 1] (w.alloc (.cells #[.int .u8 (x : Int)] 5)) fun e w' => e = .returned (.tuple #[]) ∧ ∃ F', Buf w' t b F' rest (l ++ [UInt8.ofNat x]) ∧ Only F w w' ∧ ∀ k, F' k → F k ∨ w.heap.size ≤ k := by
  have hb1 : Buf (w.alloc (.cells #[.int .u8 (x : Int)] 5)) t b F rest l := hb.below ((Below.refl _ _).alloc (Nat.le_refl _) _)
  refine (lay_any _ t b F rest l hb1 _ _ [UInt8.ofNat x] (one_u8 w x hx) (by simp; omega)).mono ?_
  rintro e w' ⟨he, F', h1, h2, h3⟩
  refine ⟨he, F', h1, ((Only.refl F w).alloc _).trans h2 (fun _ _ h => h), fun k hk => ?_⟩
  rcases h3 k hk with h | h
  · exact .inl h
  · exact .inr (by simp at h; omega)

set_option maxRecDepth 100000 in
set_option maxHeartbeats 1000000 in
theorem number_any (w : World) (t : TypeId) (b : Nat) (F : Nat → Prop) (rest : List Value) (l : List UInt8) (hb : Buf w t b F rest l) (u : Nat) (hu : u < 18446744073709551616) (hlen : l.length ≤ 900000000) :
    Calls Try.prog 50 #[.pointer (some ⟨b, 0, none⟩), .int .u64 (u : Int)] w fun e w' => e = .returned (.tuple #[]) ∧ ∃ F', Buf w' t b F' rest (l ++ numB u) ∧ Only F w w' ∧ ∀ k, F' k → F k ∨ w.heap.size ≤ k := by
  have HB := Lib.hid hb
  clear hb
  go_enter Try.func50, Try.ntmps50
  go_wp2
  go_loopw [4] (fun i wr => ∃ k : Nat, i = .int .i64 k ∧ k ≤ 8 ∧ k ≤ (be256 u).length ∧ w = wr) (fun i _ => 8 - (intOf i).toNat)
  case atStart => exact ⟨0, rfl, Nat.zero_le _, Nat.zero_le _, rfl⟩
  case round =>
    obtain ⟨k, rfl, hk, hkl, rfl⟩ := hrel
    by_cases hk8 : k < 8
    · have hsh := shr_nat u k
      by_cases hq : u / 256 ^ k = 0
      · have hlt : u < 256 ^ k := by
          rcases Nat.lt_or_ge u (256 ^ k) with h | h
          · exact h
          · have := Nat.div_pos h (Nat.pow_pos (by omega)); omega
        have hle := be_len_le k u hlt
        rw [hq] at hsh
        clear hlt hq
        have hm : k = (be256 u).length := by omega
        have HM := Lib.hid hm
        have HL1 := Lib.hid (lay_one w t b F rest l HB.out k (by omega) (by omega))
        clear hkl hm
        go_wp2_with (go_at_call 64; refine HL1.out.mono ?_; clear HL1; rintro e w2 ⟨rfl, F2, h21, h22, h23⟩; have H21 := Lib.hid h21; have H22 := Lib.hid h22; have H23 := Lib.hid h23; clear h21 h22 h23)
        go_loopw [5] (fun i wr => ∃ (j : Nat) (F3 : Nat → Prop), i = .int .i64 ((j : Int) - 1) ∧ j ≤ k ∧ Buf wr t b F3 rest (l ++ [UInt8.ofNat k] ++ (be256 u).take (k - j)) ∧ Only F w wr ∧ ∀ q, F3 q → F q ∨ w.heap.size ≤ q) (fun i _ => (intOf i + 1).toNat)
        case atStart => exact ⟨k, F2, rfl, Nat.le_refl _, by rw [Nat.sub_self, List.take_zero, List.append_nil]; exact H21.out, H22.out, H23.out⟩
        case round =>
          obtain ⟨j, F3, h5, hj, hb3, ho3, hf3⟩ := hrel
          have HB3 := Lib.hid hb3
          have HO3 := Lib.hid ho3
          have HF3 := Lib.hid hf3
          clear hb3 ho3 hf3
          rcases Nat.eq_zero_or_pos j with rfl | hpos
          · have e5 : (((0 : Nat) : Int) - 1) = -1 := by omega
            rw [e5] at h5
            subst h5
            go_wp2
            go_end0
            refine ⟨rfl, F3, ?_, HO3.out, HF3.out⟩
            have h1 := HB3.out
            rw [Nat.sub_zero, List.take_of_length_le (by rw [← HM.out]; exact Nat.le_refl _), List.append_assoc] at h1
            have h2 : numB u = [UInt8.ofNat k] ++ be256 u := by unfold numB; rw [← HM.out]; rfl
            rw [h2]; exact h1
          · obtain ⟨i, rfl⟩ : ∃ i, j = i + 1 := ⟨j - 1, by omega⟩
            have e5 : (((i + 1 : Nat) : Int) - 1) = i := by omega
            rw [e5] at h5
            subst h5
            have hi8 : (i : Int) < 8 := by omega
            have hsh := shr_nat u i
            obtain ⟨d, hd⟩ : ∃ d, d = u / 256 ^ i % 256 := ⟨_, rfl⟩
            have hd256 : d < 256 := by omega
            have hwr : IntKind.u8.wrap ((u / 256 ^ i : Nat) : Int) = (d : Int) := by rw [IntKind.wrap_u8]; omega
            have hL3 := lay_one wr t b F3 rest _ HB3.out d hd256 (by simp only [List.length_append, List.length_take, List.length_cons, List.length_nil]; omega)
            have hcat : l ++ [UInt8.ofNat k] ++ (be256 u).take (k - (i + 1)) ++ [UInt8.ofNat d] = l ++ [UInt8.ofNat k] ++ (be256 u).take (k - i) := by
              have hg := be_get i u (by rw [← HM.out]; omega)
              have hlt : k - (i + 1) < (be256 u).length := by rw [← HM.out]; omega
              have e1 : k - i = k - (i + 1) + 1 := by omega
              rw [e1, ← List.take_append_getElem hlt, ← List.append_assoc]
              congr 2
              rw [hd, ← hg]
              congr 1
              rw [← HM.out]; omega
            rw [hcat] at hL3
            have HL3 := Lib.hid hL3
            clear hL3 hcat hd
            generalize ((u / 256 ^ i : Nat) : Int) = q at *
            go_wp2_with (go_at_call 64; refine HL3.out.mono ?_; clear HL3; rintro e w4 ⟨rfl, F4, h41, h42, h43⟩; have H41 := Lib.hid h41; have H42 := Lib.hid h42; have H43 := Lib.hid h43; clear h41 h42 h43)
            have ho4 : Only F w w4 := HO3.out.trans H42.out (fun q hq h => by
              rcases HF3.out q h with h2 | h2
              · exact h2
              · omega)
            refine ⟨⟨i, F4, by congr 1, by omega, H41.out, ho4, fun q hq => ?_⟩, ?_⟩
            · rcases H43.out q hq with h | h
              · exact HF3.out q h
              · exact .inr (Nat.le_trans HO3.out.size h)
            · (simp [intOf]) <;> omega
      · have hge : 256 ^ k ≤ u := by
          rcases Nat.lt_or_ge u (256 ^ k) with h | h
          · exact absurd (Nat.div_eq_of_lt h) hq
          · exact h
        have hle := be_len_ge k u hge
        have hq2 : (((u / 256 ^ k : Nat) : Int) != 0) = true := by rw [bne_iff_ne]; omega
        have hq3 : ¬ ((u / 256 ^ k : Nat) : Int) = 0 := by omega
        clear hge hq
        generalize ((u / 256 ^ k : Nat) : Int) = q at *
        go_wp2
        go_roundw
        case rel => exact ⟨k + 1, by go_num, by omega, hle, by first | rfl | trivial⟩
        case measure => (simp [intOf]) <;> omega
    · have hle := be_len_le 8 u (by have : (256 : Nat) ^ 8 = 18446744073709551616 := by decide
                                    omega)
      have hk9 : (8 : Int) ≤ k := by omega
      have hm : k = (be256 u).length := by omega
      have HM := Lib.hid hm
      have HL1 := Lib.hid (lay_one w t b F rest l HB.out k (by omega) (by omega))
      clear hkl hm
      go_wp2_with (go_at_call 64; refine HL1.out.mono ?_; clear HL1; rintro e w2 ⟨rfl, F2, h21, h22, h23⟩; have H21 := Lib.hid h21; have H22 := Lib.hid h22; have H23 := Lib.hid h23; clear h21 h22 h23)
      go_loopw [5] (fun i wr => ∃ (j : Nat) (F3 : Nat → Prop), i = .int .i64 ((j : Int) - 1) ∧ j ≤ k ∧ Buf wr t b F3 rest (l ++ [UInt8.ofNat k] ++ (be256 u).take (k - j)) ∧ Only F w wr ∧ ∀ q, F3 q → F q ∨ w.heap.size ≤ q) (fun i _ => (intOf i + 1).toNat)
      case atStart => exact ⟨k, F2, rfl, Nat.le_refl _, by rw [Nat.sub_self, List.take_zero, List.append_nil]; exact H21.out, H22.out, H23.out⟩
      case round =>
        obtain ⟨j, F3, h5, hj, hb3, ho3, hf3⟩ := hrel
        have HB3 := Lib.hid hb3
        have HO3 := Lib.hid ho3
        have HF3 := Lib.hid hf3
        clear hb3 ho3 hf3
        rcases Nat.eq_zero_or_pos j with rfl | hpos
        · have e5 : (((0 : Nat) : Int) - 1) = -1 := by omega
          rw [e5] at h5
          subst h5
          go_wp2
          go_end0
          refine ⟨rfl, F3, ?_, HO3.out, HF3.out⟩
          have h1 := HB3.out
          rw [Nat.sub_zero, List.take_of_length_le (by rw [← HM.out]; exact Nat.le_refl _), List.append_assoc] at h1
          have h2 : numB u = [UInt8.ofNat k] ++ be256 u := by unfold numB; rw [← HM.out]; rfl
          rw [h2]; exact h1
        · obtain ⟨i, rfl⟩ : ∃ i, j = i + 1 := ⟨j - 1, by omega⟩
          have e5 : (((i + 1 : Nat) : Int) - 1) = i := by omega
          rw [e5] at h5
          subst h5
          have hi8 : (i : Int) < 8 := by omega
          have hsh := shr_nat u i
          obtain ⟨d, hd⟩ : ∃ d, d = u / 256 ^ i % 256 := ⟨_, rfl⟩
          have hd256 : d < 256 := by omega
          have hwr : IntKind.u8.wrap ((u / 256 ^ i : Nat) : Int) = (d : Int) := by rw [IntKind.wrap_u8]; omega
          have hL3 := lay_one wr t b F3 rest _ HB3.out d hd256 (by simp only [List.length_append, List.length_take, List.length_cons, List.length_nil]; omega)
          have hcat : l ++ [UInt8.ofNat k] ++ (be256 u).take (k - (i + 1)) ++ [UInt8.ofNat d] = l ++ [UInt8.ofNat k] ++ (be256 u).take (k - i) := by
            have hg := be_get i u (by rw [← HM.out]; omega)
            have hlt : k - (i + 1) < (be256 u).length := by rw [← HM.out]; omega
            have e1 : k - i = k - (i + 1) + 1 := by omega
            rw [e1, ← List.take_append_getElem hlt, ← List.append_assoc]
            congr 2
            rw [hd, ← hg]
            congr 1
            rw [← HM.out]; omega
          rw [hcat] at hL3
          have HL3 := Lib.hid hL3
          clear hL3 hcat hd
          generalize ((u / 256 ^ i : Nat) : Int) = q at *
          go_wp2_with (go_at_call 64; refine HL3.out.mono ?_; clear HL3; rintro e w4 ⟨rfl, F4, h41, h42, h43⟩; have H41 := Lib.hid h41; have H42 := Lib.hid h42; have H43 := Lib.hid h43; clear h41 h42 h43)
          have ho4 : Only F w w4 := HO3.out.trans H42.out (fun q hq h => by
            rcases HF3.out q h with h2 | h2
            · exact h2
            · omega)
          refine ⟨⟨i, F4, by congr 1, by omega, H41.out, ho4, fun q hq => ?_⟩, ?_⟩
          · rcases H43.out q hq with h | h
            · exact HF3.out q h
            · exact .inr (Nat.le_trans HO3.out.size h)
          · (simp [intOf]) <;> omega
end Go.Proofs.Ytedcljahcedpjaa
/- The writer: sizes, signed numbers, texts. -/
namespace Go.Proofs.Ytedcljahcedpjaa
open Go.RowKit Go.Afx

@[go_sem] theorem ite_lt_max (x y : Int) : (if x < y then y else x) = max x y := by omega
@[go_sem] theorem ite_lt_min (x y : Int) : (if x < y then x else y) = min x y := by omega


/-- What a list of things is laid as. -/
def laid {α : Type} (f : α → List UInt8) (l : List α) : List UInt8 := (l.map f).flatten
theorem laid_next {α : Type} (f : α → List UInt8) (l : List α) (k : Nat) (h : k < l.length) : laid f (l.take (k + 1)) = laid f (l.take k) ++ f l[k] := by
  unfold laid
  rw [← List.take_append_getElem h, List.map_append, List.flatten_append]
  simp
def sizeB (n : Int) : List UInt8 := numB (max n 0).toNat
theorem be_len8 (u : Nat) (h : u < 18446744073709551616) : (numB u).length ≤ 9 := by
  unfold numB
  have := be_len_le 8 u (by have : (256 : Nat) ^ 8 = 18446744073709551616 := by decide
                            omega)
  rw [List.length_cons]; omega
theorem laid_len {α : Type} (f : α → List UInt8) (m : Nat) (l : List α) (h : ∀ x ∈ l, (f x).length ≤ m) : (laid f l).length ≤ m * l.length := by
  induction l with
  | nil => simp [laid]
  | cons x l ih =>
    have h1 := h x (by simp)
    have h2 := ih (fun y hy => h y (by simp [hy]))
    unfold laid at *
    rw [List.map_cons, List.flatten_cons, List.length_append, List.length_cons, Nat.mul_succ]
    omega

set_option maxRecDepth 100000 in
set_option maxHeartbeats 1000000 in
theorem size_wr (w : World) (t : TypeId) (b : Nat) (F : Nat → Prop) (rest : List Value) (l : List UInt8) (hb : Buf w t b F rest l) (v : Value) (x : List Int) (hx : Sl w (fun k => ¬ F k) 1 v x.length (ints x)) (hf : ∀ n ∈ x, fit64 n) (hlen : l.length ≤ 100000000) (hxl : x.length ≤ 1000000) :
    Calls Try.prog 37 #[.pointer (some ⟨b, 0, none⟩), v] w fun e w' => e = .returned (.pointer (some ⟨b, 0, none⟩)) ∧ ∃ F', Buf w' t b F' rest (l ++ laid sizeB x) ∧ Only F w w' ∧ ∀ k, F' k → F k ∨ w.heap.size ≤ k := by
  obtain ⟨p, cap, rfl, hc1, hc2⟩ := hx.form
  have HB := Lib.hid hb
  have HX := Lib.hid hx
  have HF := Lib.hid hf
  clear hb hx hf
  go_enter Try.func37, Try.ntmps37
  go_wp2
  go_loopw [9] (fun i wr => ∃ (k : Nat) (F3 : Nat → Prop), i = .int .i64 k ∧ k ≤ x.length ∧ Buf wr t b F3 rest (l ++ laid sizeB (x.take k)) ∧ Only F w wr ∧ ∀ q, F3 q → F q ∨ w.heap.size ≤ q) (fun i _ => x.length - (intOf i).toNat)
  case atStart => exact ⟨0, F, rfl, Nat.zero_le _, by simpa [laid] using HB.out, Only.refl _ _, fun q h => .inl h⟩
  case round =>
    obtain ⟨k, F3, rfl, hk, hb3, ho3, hf3⟩ := hrel
    have HB3 := Lib.hid hb3
    have HO3 := Lib.hid ho3
    have HF3 := Lib.hid hf3
    by_cases hka : k < x.length
    · obtain ⟨g, off, cap', hv, _, _, hgb, hglt, hc⟩ := HX.out.place (by omega)
      cases hv
      have hc0 : w.cell? ⟨g, off + k, none⟩ = some (.int .i64 x[k]) := by rw [hc k (by simpa [ints] using hka)]; simp [ints, hka]
      have hck : wr.cell? ⟨g, off + k, none⟩ = some (.int .i64 x[k]) := (ho3.cell (p := ⟨g, off + k, none⟩) hglt hgb).trans hc0
      have hfx := HF.out x[k] (List.getElem_mem hka)
      have HN := Lib.hid (laid_next sizeB x k hka)
      have hll := laid_len sizeB 9 (x.take k) (fun n hn => be_len8 _ (by have := HF.out n (List.mem_of_mem_take hn); unfold fit64 at this; omega))
      have hlk : (x.take k).length ≤ 1000000 := by rw [List.length_take]; omega
      unfold fit64 at hfx
      clear hc hc0 hb3 ho3 hf3
      generalize x[k] = n at *
      obtain ⟨u, hu⟩ : ∃ u : Nat, u = (max n 0).toNat := ⟨_, rfl⟩
      have hui : max n 0 = (u : Int) := by omega
      have hL := number_any wr t b F3 rest _ HB3.out u (by omega) (by rw [List.length_append]; omega)
      have hsb : sizeB n = numB u := by unfold sizeB; rw [hu]
      rw [List.append_assoc, ← hsb, ← HN.out] at hL
      have HL := Lib.hid hL
      have hu64 : (u : Int) < 18446744073709551616 := by omega
      clear hL hll hlk hu hsb
      go_wp2_with (go_at_call 50; refine HL.out.mono ?_; clear HL; rintro e w4 ⟨rfl, F4, h41, h42, h43⟩; have H41 := Lib.hid h41; have H42 := Lib.hid h42; have H43 := Lib.hid h43; clear h41 h42 h43)
      have ho4 : Only F w w4 := HO3.out.trans H42.out (fun q hq h => by
        rcases HF3.out q h with h2 | h2
        · exact h2
        · omega)
      refine ⟨⟨k + 1, F4, by congr 1, by omega, H41.out, ho4, fun q hq => ?_⟩, ?_⟩
      · rcases H43.out q hq with h | h
        · exact HF3.out q h
        · exact .inr (Nat.le_trans HO3.out.size h)
      · (simp [intOf]) <;> omega
    · obtain rfl : k = x.length := by omega
      clear hb3 ho3 hf3
      go_wp2
      go_ret
      refine ⟨rfl, F3, ?_, HO3.out, HF3.out⟩
      have := HB3.out
      rwa [List.take_length] at this
end Go.Proofs.Ytedcljahcedpjaa
/- The writer: signed numbers, texts; what was laid. -/
namespace Go.Proofs.Ytedcljahcedpjaa
open Go.RowKit Go.Afx

/-- A signed number's place among those that have no sign. -/
def zig (n : Int) : Nat := if n < 0 then (-2 * n - 1).toNat else (2 * n).toNat
def signB (n : Int) : List UInt8 := numB (zig n)

theorem xor_ones (m : Nat) (h : m < 18446744073709551616) : m ^^^ 18446744073709551615 = 18446744073709551615 - m := by
  have := @BitVec.toNat_not 64 (BitVec.ofNat 64 m)
  have h2 : (BitVec.ofNat 64 m ^^^ BitVec.allOnes 64) = ~~~ (BitVec.ofNat 64 m) := BitVec.xor_allOnes
  have h3 := congrArg BitVec.toNat h2
  rw [BitVec.toNat_xor, this] at h3
  simp at h3
  rw [Nat.mod_eq_of_lt h] at h3
  omega
theorem zig_neg (n : Int) (h : fit64 n) (hn : n < 0) : bits .xor .u64 (IntKind.u64.wrap (IntKind.u64.wrap n * 2)) (IntKind.u64.wrap (n / 9223372036854775808)) = (zig n : Int) := by
  unfold fit64 at h
  have e1 : IntKind.u64.wrap (IntKind.u64.wrap n * 2) = (((2 * n) % 18446744073709551616).toNat : Int) := by rw [IntKind.wrap_u64, IntKind.wrap_u64]; omega
  have e2 : IntKind.u64.wrap (n / 9223372036854775808) = ((18446744073709551615 : Nat) : Int) := by rw [IntKind.wrap_u64]; omega
  rw [e1, e2, bits_xor_u64_nat _ _ (by omega) (by omega), xor_ones _ (by omega)]
  unfold zig
  rw [if_pos hn]
  omega
theorem zig_pos (n : Int) (h : fit64 n) (hn : ¬ n < 0) : bits .xor .u64 (n * 2) (n / 9223372036854775808) = (zig n : Int) := by
  unfold fit64 at h
  have e1 : n * 2 = ((2 * n).toNat : Int) := by omega
  have e2 : n / 9223372036854775808 = ((0 : Nat) : Int) := by omega
  rw [e1, e2, bits_xor_u64_nat _ _ (by omega) (by omega), Nat.xor_zero]
  unfold zig
  rw [if_neg hn]

set_option maxRecDepth 100000 in
set_option maxHeartbeats 1000000 in
theorem signed_wr (w : World) (t : TypeId) (b : Nat) (F : Nat → Prop) (rest : List Value) (l : List UInt8) (hb : Buf w t b F rest l) (v : Value) (x : List Int) (hx : Sl w (fun k => ¬ F k) 1 v x.length (ints x)) (hf : ∀ n ∈ x, fit64 n) (hlen : l.length ≤ 100000000) (hxl : x.length ≤ 1000000) :
    Calls Try.prog 80 #[.pointer (some ⟨b, 0, none⟩), v] w fun e w' => e = .returned (.pointer (some ⟨b, 0, none⟩)) ∧ ∃ F', Buf w' t b F' rest (l ++ laid signB x) ∧ Only F w w' ∧ ∀ k, F' k → F k ∨ w.heap.size ≤ k := by
  obtain ⟨p, cap, rfl, hc1, hc2⟩ := hx.form
  have HB := Lib.hid hb
  have HX := Lib.hid hx
  have HF := Lib.hid hf
  clear hb hx hf
  go_enter Try.func80, Try.ntmps80
  go_wp2
  go_loopw [9] (fun i wr => ∃ (k : Nat) (F3 : Nat → Prop), i = .int .i64 k ∧ k ≤ x.length ∧ Buf wr t b F3 rest (l ++ laid signB (x.take k)) ∧ Only F w wr ∧ ∀ q, F3 q → F q ∨ w.heap.size ≤ q) (fun i _ => x.length - (intOf i).toNat)
  case atStart => exact ⟨0, F, rfl, Nat.zero_le _, by simpa [laid] using HB.out, Only.refl _ _, fun q h => .inl h⟩
  case round =>
    obtain ⟨k, F3, rfl, hk, hb3, ho3, hf3⟩ := hrel
    have HB3 := Lib.hid hb3
    have HO3 := Lib.hid ho3
    have HF3 := Lib.hid hf3
    by_cases hka : k < x.length
    · obtain ⟨g, off, cap', hv, _, _, hgb, hglt, hc⟩ := HX.out.place (by omega)
      cases hv
      have hc0 : w.cell? ⟨g, off + k, none⟩ = some (.int .i64 x[k]) := by rw [hc k (by simpa [ints] using hka)]; simp [ints, hka]
      have hck : wr.cell? ⟨g, off + k, none⟩ = some (.int .i64 x[k]) := (ho3.cell (p := ⟨g, off + k, none⟩) hglt hgb).trans hc0
      have hfx := HF.out x[k] (List.getElem_mem hka)
      have HN := Lib.hid (laid_next signB x k hka)
      have HXN := Lib.hid (zig_neg x[k] hfx)
      have HXP := Lib.hid (zig_pos x[k] hfx)
      have hll := laid_len signB 9 (x.take k) (fun n hn => be_len8 _ (by have := HF.out n (List.mem_of_mem_take hn); unfold fit64 at this; unfold zig; split <;> omega))
      have hlk : (x.take k).length ≤ 1000000 := by rw [List.length_take]; omega
      unfold fit64 at hfx
      clear hc hc0 hb3 ho3 hf3
      generalize x[k] = n at *
      obtain ⟨u, hu⟩ : ∃ u : Nat, u = zig n := ⟨_, rfl⟩
      have hu64 : u < 18446744073709551616 := by rw [hu]; unfold zig; split <;> omega
      have hL := number_any wr t b F3 rest _ HB3.out u hu64 (by rw [List.length_append]; omega)
      have hsb : signB n = numB u := by unfold signB; rw [hu]
      rw [List.append_assoc, ← hsb, ← HN.out] at hL
      have HL := Lib.hid hL
      have HU := Lib.hid hu
      clear hL hll hlk hu hsb
      by_cases hneg : n < 0
      · have hxo := HXN.out hneg
        rw [← HU.out] at hxo
        clear HXN HXP
        go_wp2_with (go_at_call 50; refine HL.out.mono ?_; clear HL; rintro e w4 ⟨rfl, F4, h41, h42, h43⟩; have H41 := Lib.hid h41; have H42 := Lib.hid h42; have H43 := Lib.hid h43; clear h41 h42 h43)
        have ho4 : Only F w w4 := HO3.out.trans H42.out (fun q hq h => by
          rcases HF3.out q h with h2 | h2
          · exact h2
          · omega)
        refine ⟨⟨k + 1, F4, by congr 1, by omega, H41.out, ho4, fun q hq => ?_⟩, ?_⟩
        · rcases H43.out q hq with h | h
          · exact HF3.out q h
          · exact .inr (Nat.le_trans HO3.out.size h)
        · (simp [intOf]) <;> omega
      · have hxo := HXP.out hneg
        rw [← HU.out] at hxo
        clear HXN HXP
        go_wp2_with (go_at_call 50; refine HL.out.mono ?_; clear HL; rintro e w4 ⟨rfl, F4, h41, h42, h43⟩; have H41 := Lib.hid h41; have H42 := Lib.hid h42; have H43 := Lib.hid h43; clear h41 h42 h43)
        have ho4 : Only F w w4 := HO3.out.trans H42.out (fun q hq h => by
          rcases HF3.out q h with h2 | h2
          · exact h2
          · omega)
        refine ⟨⟨k + 1, F4, by congr 1, by omega, H41.out, ho4, fun q hq => ?_⟩, ?_⟩
        · rcases H43.out q hq with h | h
          · exact HF3.out q h
          · exact .inr (Nat.le_trans HO3.out.size h)
        · (simp [intOf]) <;> omega
    · obtain rfl : k = x.length := by omega
      clear hb3 ho3 hf3
      go_wp2
      go_ret
      refine ⟨rfl, F3, ?_, HO3.out, HF3.out⟩
      have := HB3.out
      rwa [List.take_length] at this

set_option maxRecDepth 100000 in
theorem string_bytes (w : World) (t : TypeId) (b : Nat) (F : Nat → Prop) (rest : List Value) (l : List UInt8) (hb : Buf w t b F rest l) :
    Calls Try.prog 52 #[.pointer (some ⟨b, 0, none⟩)] w fun e w' => e = .returned (.string ⟨l.toArray⟩) ∧ w = w' := by
  obtain ⟨bv, h1, h2, h3, h4⟩ := hb
  have k0 := h1.cell 0
  rcases h2.2.2 with ⟨rfl, h0⟩ | ⟨g, off, cap, cur, rfl, hcur, hc1, hc2, hrest⟩
  · have hl : l = [] := List.eq_nil_of_length_eq_zero h0
    subst hl
    have k1 : w.cell? ⟨b, 0, none⟩ = some (.slice none 0 0) := k0
    have kc : ∀ w, (convert 88 9 (.slice none 0 0)).run Try.prog w = .ok (.string ⟨#[]⟩) w := fun _ => by kernel_rfl
    clear h1 h2 h3 h4 k0
    go_enter Try.func52, Try.ntmps52
    go_wp2
    go_ret
    exact ⟨rfl, rfl⟩
  · have k1 : w.cell? ⟨b, 0, none⟩ = some (.slice (some ⟨g, off, none⟩) l.length cap) := k0
    have kc := run_convert_bytes_back (P := Try.prog) w 88 9 5 ⟨g, off, none⟩ cap l Try.underlying88 Try.underlying5 Try.underlying9 (fun j hj => by
      have h5 := (h2.cellAt (j := j) (by omega)).1
      rw [Addr.add_lit, h5]
      exact by8_get l j hj)
    clear h1 h2 h3 h4 k0 hcur hrest
    go_enter Try.func52, Try.ntmps52
    go_wp2
    go_ret
    exact ⟨rfl, rfl⟩
theorem string_wr (w : World) (t : TypeId) (b : Nat) (F : Nat → Prop) (rest : List Value) (l : List UInt8) (hb : Buf w t b F rest l) :
    Calls Try.prog 39 #[.pointer (some ⟨b, 0, none⟩)] w fun e w' => e = .returned (.string ⟨l.toArray⟩) ∧ w = w' := by
  have HS := Lib.hid (string_bytes w t b F rest l hb)
  clear hb
  generalize (⟨l.toArray⟩ : ByteArray) = s at *
  go_enter Try.func39, Try.ntmps39
  go_wp2_with (go_at_call 52; refine HS.out.mono ?_; rintro e w2 ⟨rfl, rfl⟩)
  go_ret
  exact ⟨rfl, rfl⟩
theorem len_bytes (w : World) (t : TypeId) (b : Nat) (F : Nat → Prop) (rest : List Value) (l : List UInt8) (hb : Buf w t b F rest l) :
    Calls Try.prog 68 #[.pointer (some ⟨b, 0, none⟩)] w fun e w' => e = .returned (.int .i64 l.length) ∧ w = w' := by
  obtain ⟨bv, h1, h2, h3, h4⟩ := hb
  obtain ⟨p, c, rfl, _, _⟩ := own_form2 h2
  have k0 : w.cell? ⟨b, 0, none⟩ = some (.slice p l.length c) := h1.cell 0
  clear h1 h2 h3 h4
  go_enter Try.func68, Try.ntmps68
  go_wp2
  go_ret
  exact ⟨rfl, rfl⟩
end Go.Proofs.Ytedcljahcedpjaa
/- The writer: texts. -/
namespace Go.Proofs.Ytedcljahcedpjaa
open Go.RowKit Go.Afx

/-- A slice of texts, as cells. -/
def strs (l : List ByteArray) : List Value := l.map Value.string
def textB (s : ByteArray) : List UInt8 := numB s.size ++ s.data.toList

theorem cv_sl (w : World) (s : ByteArray) : Sl (cvW w s 5) (fun _ => True) 1 (.slice (some ⟨w.heap.size, 0, none⟩) s.size (cvCap w s 5)) s.data.toList.length (by8 s.data.toList) ∨ maxLen < s.size := by
  by_cases h : s.size ≤ maxLen
  · left
    have hl := size_list s _ rfl
    refine ⟨by rw [by8_length, Nat.mul_one], by8_ones _, .inr ⟨w.heap.size, 0, cvCap w s _, by rw [hl], ?_, grownCap_le_maxLen w s.size 0 _ h, trivial, by rw [cvW_size]; omega, fun j hj => ?_⟩⟩
    · rw [← hl]; exact grownCap_ge w s.size 0 _
    · rw [by8_length] at hj
      rw [Nat.zero_add, cvW_cell w s _ _ rfl j hj, by8_get _ j hj]
  · right; omega

set_option maxRecDepth 100000 in
set_option maxHeartbeats 1000000 in
theorem text_wr (w : World) (t : TypeId) (b : Nat) (F : Nat → Prop) (rest : List Value) (l : List UInt8) (hb : Buf w t b F rest l) (v : Value) (x : List ByteArray) (hx : Sl w (fun k => ¬ F k) 1 v x.length (strs x)) (hf : ∀ s ∈ x, s.size ≤ 1000) (hlen : l.length ≤ 100000000) (hxl : x.length ≤ 10000) :
    Calls Try.prog 81 #[.pointer (some ⟨b, 0, none⟩), v] w fun e w' => e = .returned (.pointer (some ⟨b, 0, none⟩)) ∧ ∃ F', Buf w' t b F' rest (l ++ laid textB x) ∧ Only F w w' ∧ ∀ k, F' k → F k ∨ w.heap.size ≤ k := by
  obtain ⟨p, cap, rfl, hc1, hc2⟩ := hx.form
  have HB := Lib.hid hb
  have HX := Lib.hid hx
  have HF := Lib.hid hf
  clear hb hx hf
  go_enter Try.func81, Try.ntmps81
  go_wp2
  go_loopw [9] (fun i wr => ∃ (k : Nat) (F3 : Nat → Prop), i = .int .i64 k ∧ k ≤ x.length ∧ Buf wr t b F3 rest (l ++ laid textB (x.take k)) ∧ Only F w wr ∧ ∀ q, F3 q → F q ∨ w.heap.size ≤ q) (fun i _ => x.length - (intOf i).toNat)
  case atStart => exact ⟨0, F, rfl, Nat.zero_le _, by simpa [laid] using HB.out, Only.refl _ _, fun q h => .inl h⟩
  case round =>
    obtain ⟨k, F3, rfl, hk, hb3, ho3, hf3⟩ := hrel
    have HB3 := Lib.hid hb3
    have HO3 := Lib.hid ho3
    have HF3 := Lib.hid hf3
    by_cases hka : k < x.length
    · obtain ⟨g, off, cap', hv, _, _, hgb, hglt, hc⟩ := HX.out.place (by omega)
      cases hv
      have hc0 : w.cell? ⟨g, off + k, none⟩ = some (.string x[k]) := by rw [hc k (by simpa [strs] using hka)]; simp [strs, hka]
      have hck : wr.cell? ⟨g, off + k, none⟩ = some (.string x[k]) := (ho3.cell (p := ⟨g, off + k, none⟩) hglt hgb).trans hc0
      have hfx := HF.out x[k] (List.getElem_mem hka)
      have HN := Lib.hid (laid_next textB x k hka)
      have hll := laid_len textB 1009 (x.take k) (fun s hs => by
        have h1 := HF.out s (List.mem_of_mem_take hs)
        have h2 := be_len8 s.size (by omega)
        have h3 := size_list s _ rfl
        unfold textB
        rw [List.length_append]; omega)
      have hlk : (x.take k).length ≤ 10000 := by rw [List.length_take]; omega
      clear hc hc0 hb3 ho3 hf3
      generalize x[k] = s at *
      have hL := number_any wr t b F3 rest _ HB3.out s.size (by omega) (by rw [List.length_append]; omega)
      have HL := Lib.hid hL
      have hss := size_list s _ rfl
      have kc : ∀ w, (convert 9 88 (.string s)).run Try.prog w = .ok (.slice (some ⟨w.heap.size, 0, none⟩) s.size (cvCap w s 5)) (cvW w s 5) := fun w => run_cv w _ _ _ s Try.underlying9 Try.underlying88 Try.underlying5
      have hbig : (l ++ laid textB (x.take k) ++ numB s.size).length + s.data.toList.length ≤ 1000000000 := by
        have h2 := be_len8 s.size (by omega)
        rw [List.length_append, List.length_append]; omega
      have HLY : Hid (∀ (w4 : World) (F4 : Nat → Prop), Buf w4 t b F4 rest (l ++ laid textB (x.take k) ++ numB s.size) → Calls Try.prog 64 #[.pointer (some ⟨b, 0, none⟩), .slice (some ⟨w4.heap.size, 0, none⟩) s.size (cvCap w4 s 5)] (cvW w4 s 5) fun e w' => e = .returned (.tuple #[]) ∧ ∃ F', Buf w' t b F' rest (l ++ laid textB (x.take (k + 1))) ∧ Only F4 w4 w' ∧ ∀ k, F' k → F4 k ∨ w4.heap.size ≤ k) := fun w4 F4 h4 => by
        have hsl := (cv_sl w4 s).resolve_right (by unfold maxLen; omega)
        refine (lay_any (cvW w4 s 5) t b F4 rest _ (h4.below (cvW_below w4 s _)) _ _ s.data.toList hsl hbig).mono ?_
        rintro e w' ⟨he, F', h1, h2, h3⟩
        refine ⟨he, F', ?_, (Only.of_none (cvW_below w4 s _)).trans h2 (fun _ _ h => h), fun k hk => ?_⟩
        · rw [HN.out]
          unfold textB at h1 ⊢
          rw [← List.append_assoc, ← List.append_assoc]
          exact h1
        · rcases h3 k hk with h | h
          · exact .inl h
          · rw [cvW_size] at h; exact .inr (by omega)
      clear hL hll hlk hss hbig
      go_wp2_with (first
        | (go_at_call 50; refine HL.out.mono ?_; clear HL; rintro e w4 ⟨rfl, F4, h41, h42, h43⟩; have HLY4 := Lib.hid (HLY.out w4 F4 h41); have H42 := Lib.hid h42; have H43 := Lib.hid h43; clear h41 h42 h43)
        | (go_at_call 64; refine HLY4.out.mono ?_; clear HLY4; rintro e w5 ⟨rfl, F5, h51, h52, h53⟩; have H51 := Lib.hid h51; have H52 := Lib.hid h52; have H53 := Lib.hid h53; clear h51 h52 h53))
      have ho4 : Only F w w4 := HO3.out.trans H42.out (fun q hq h => by
        rcases HF3.out q h with h2 | h2
        · exact h2
        · omega)
      have hf4 : ∀ q, F4 q → F q ∨ w.heap.size ≤ q := fun q hq => by
        rcases H43.out q hq with h | h
        · exact HF3.out q h
        · exact .inr (Nat.le_trans HO3.out.size h)
      have ho5 : Only F w w5 := ho4.trans H52.out (fun q hq h => by
        rcases hf4 q h with h2 | h2
        · exact h2
        · omega)
      refine ⟨⟨k + 1, F5, by congr 1, by omega, H51.out, ho5, fun q hq => ?_⟩, ?_⟩
      · rcases H53.out q hq with h | h
        · exact hf4 q h
        · exact .inr (Nat.le_trans ho4.size h)
      · (simp [intOf]) <;> omega
    · obtain rfl : k = x.length := by omega
      clear hb3 ho3 hf3
      go_wp2
      go_ret
      refine ⟨rfl, F3, ?_, HO3.out, HF3.out⟩
      have := HB3.out
      rwa [List.take_length] at this
end Go.Proofs.Ytedcljahcedpjaa
/- The writer: one value. -/
namespace Go.Proofs.Ytedcljahcedpjaa
open Go.RowKit Go.Afx

theorem int_val (w : World) (n : Int) : Calls Try.prog 79 #[.int .i64 n] w fun e w' => e = .returned (.agg #[.int .i64 1, .int .i64 n, .string ⟨#[]⟩]) ∧ Below w.heap.size w w' := by
  go_enter Try.func79, Try.ntmps79
  go_wp2
  refine bodyPost_ret (v := .agg #[.int .i64 1, .int .i64 n, .string ⟨#[]⟩]) (by simp [results, Try.results79, go_sem]) rfl ⟨rfl, ?_⟩
  exact (Below.refl _ _).alloc (Nat.le_refl _) _

def AV.zero : AV := ⟨1, 0, ⟨#[]⟩⟩
/-- A right value's bytes. -/
def rightB (v : AV) : List UInt8 := UInt8.ofNat v.kind.toNat :: (if v.kind = 1 then signB v.n else if v.kind = 2 then textB v.s else [UInt8.ofNat v.n.toNat])
def valB (v : AV) : List UInt8 := if v.right then rightB v else rightB AV.zero

theorem Buf.tight {w : World} {t : TypeId} {b : Nat} {F : Nat → Prop} {rest : List Value} {l : List UInt8} (h : Buf w t b F rest l) : Buf w t b (fun k => F k ∧ k < w.heap.size) rest l := by
  obtain ⟨bv, h1, h2, h3, h4⟩ := h
  exact ⟨bv, h1, h2, ⟨h3, h1.lt⟩, fun k hk => ⟨⟨(h4 k hk).1, h2.lt k hk⟩, (h4 k hk).2⟩⟩

theorem lay_drew (w : World) (t : TypeId) (b : Nat) (F : Nat → Prop) (rest : List Value) (l : List UInt8) (hb : Buf w t b F rest l) (x : Nat) (xi : Int) (hx : x < 256) (hxi : xi = (x : Int)) (hlen : l.length ≤ 950000000) :
    Hid (Calls Try.prog 64 #[.pointer (some ⟨b, 0, none⟩), .slice (some ⟨w.heap.size, 0, none⟩) 1 1] ((w.alloc (.cells #[.int .u8 xi] 5)).drew) fun e w' => e = .returned (.tuple #[]) ∧ ∃ F', Buf w' t b F' rest (l ++ [UInt8.ofNat x]) ∧ Only F w w' ∧ ∀ q, F' q → F q ∨ w.heap.size ≤ q) := by
  subst hxi
  have h := lay_one w.drew t b F rest l (hb.below (Below.drew (Below.refl _ _))) x hx hlen
  have h2 : Calls Try.prog 64 #[.pointer (some ⟨b, 0, none⟩), .slice (some ⟨w.heap.size, 0, none⟩) 1 1] ((w.alloc (.cells #[.int .u8 (x : Int)] 5)).drew) _ := h
  refine h2.mono ?_
  rintro e w' ⟨he, F', h3, h4, h5⟩
  exact ⟨he, F', h3, (Only.drew (Only.refl F w)).trans h4 (fun _ _ h => h), h5⟩

set_option maxRecDepth 100000 in
set_option maxHeartbeats 1000000 in
/-- The walk behind the test: a right value in its box. -/
theorem one_wr (w : World) (t : TypeId) (b : Nat) (F : Nat → Prop) (rest : List Value) (l : List UInt8) (hb : Buf w t b F rest l) (v : AV) (hn : fit64 v.n) (hlen : l.length ≤ 90000000) (hs : v.right = true → v.s.size ≤ 1000) :
    Calls Try.prog 72 #[.pointer (some ⟨b, 0, none⟩), v.agg] w fun e w' => e = .returned (.tuple #[]) ∧ ∃ F', Buf w' t b F' rest (l ++ valB v) ∧ Only F w w' ∧ ∀ k, F' k → F k ∨ w.heap.size ≤ k := by
  have HB := Lib.hid hb.tight
  clear hb
  obtain ⟨k, n, s⟩ := v
  have HR : Hid (∀ (w' : World) (p : Option Addr), Sl w' (fun _ => True) 3 (.slice p 1 1) [(⟨k, n, s⟩ : AV)].length (rowCells [⟨k, n, s⟩]) → Calls Try.prog 61 #[.slice p 1 1] w' fun e w2 => e = .returned (.bool (rightAll [⟨k, n, s⟩])) ∧ Below w'.heap.size w' w2) := fun w' p h => right_any w' _ _ [⟨k, n, s⟩] h (by simp)
  have era : rightAll [⟨k, n, s⟩] = (⟨k, n, s⟩ : AV).right := by simp [rightAll]
  rw [era] at HR
  have HSL : Hid (∀ w' : World, Sl (w'.alloc (.cells #[.int .i64 k, .int .i64 n, .string s] 86)) (fun _ => True) 3 (.slice (some ⟨w'.heap.size, 0, none⟩) 1 1) [(⟨k, n, s⟩ : AV)].length (rowCells [⟨k, n, s⟩])) := fun w' =>
    (Own.made w' 86 3 (rowCells [⟨k, n, s⟩]) [] 1 1 rfl (by intro u hu; simp [rowCells, AV.cells] at hu; rcases hu with rfl | rfl | rfl <;> rfl) (Nat.le_refl _) (by simp [maxLen]) (by simp [rowCells, AV.cells])).sl (fun _ _ => trivial)
  generalize hvr : (⟨k, n, s⟩ : AV).right = r at *
  simp only [AV.agg]
  have HVR := Lib.hid hvr
  have hb0 := Blk.new w 86 [.int .i64 k, .int .i64 n, .string s]
  have hbw : Below w.heap.size w (w.alloc (.cells #[.int .i64 k, .int .i64 n, .string s] 86)) := (Below.refl _ _).alloc (Nat.le_refl _) _
  have hsz : (w.alloc (.cells #[.int .i64 k, .int .i64 n, .string s] 86)).heap.size = w.heap.size + 1 := by simp
  clear hvr era
  go_enter Try.func72, Try.ntmps72
  go_wp2_with fail
  have hw2b : Below w.heap.size w ((w.alloc (.cells #[.int .i64 k, .int .i64 n, .string s] 86)).alloc (.cells #[.int .i64 k, .int .i64 n, .string s] 86)) := hbw.alloc (by omega) _
  have hb1 := hb0.alloc (.cells #[.int .i64 k, .int .i64 n, .string s] 86)
  have hc := HR.out _ _ (HSL.out (w.alloc (.cells #[.int .i64 k, .int .i64 n, .string s] 86)))
  rw [hsz] at hc
  refine hc.mono ?_
  clear hc
  rintro e w2 ⟨rfl, hb2⟩
  have hbw2 : Below w.heap.size w w2 := hw2b.trans (hb2.mono (by simp; omega))
  have hk2 := hb1.below hb2
  have hlx : w.heap.size < w2.heap.size := by have := hb2.size; simp at this; omega
  have HBX := Lib.hid (HB.out.below hbw2)
  have HK2 := Lib.hid hk2
  have HBW2 := Lib.hid hbw2
  clear hw2b hb1 hb0 hbw hsz hb2 hk2 hbw2 HR HSL
  cases r
  · have z0 : w2.cell? ⟨w.heap.size, 0, none⟩ = some (.int .i64 k) := HK2.out.cell 0
    have z1 : w2.cell? ⟨w.heap.size, 1, none⟩ = some (.int .i64 n) := HK2.out.cell 1
    have z2 : w2.cell? ⟨w.heap.size, 2, none⟩ = some (.string s) := HK2.out.cell 2
    go_wp2_with fail
    refine (int_val w2 0).mono ?_
    rintro e w3 ⟨rfl, hb3⟩
    have hk3 := HK2.out.below hb3
    have z0' : w3.cell? ⟨w.heap.size, 0, none⟩ = some (.int .i64 k) := hk3.cell 0
    have z1' : w3.cell? ⟨w.heap.size, 1, none⟩ = some (.int .i64 n) := hk3.cell 1
    have z2' : w3.cell? ⟨w.heap.size, 2, none⟩ = some (.string s) := hk3.cell 2
    have zf : ∀ i, w3.frozen? ⟨w.heap.size, i, none⟩ = false := hk3.frozen
    have hk4 : Blk (((w3.setCell ⟨w.heap.size, 0, none⟩ (.int .i64 1)).setCell ⟨w.heap.size, 1, none⟩ (.int .i64 0)).setCell ⟨w.heap.size, 2, none⟩ (.string ⟨#[]⟩)) w.heap.size 86 [.int .i64 1, .int .i64 0, .string ⟨#[]⟩] := ((hk3.set 0 (.int .i64 1)).set 1 (.int .i64 0)).set 2 (.string ⟨#[]⟩)
    have hb24 : Below w.heap.size w (((w3.setCell ⟨w.heap.size, 0, none⟩ (.int .i64 1)).setCell ⟨w.heap.size, 1, none⟩ (.int .i64 0)).setCell ⟨w.heap.size, 2, none⟩ (.string ⟨#[]⟩)) :=
      (((HBW2.out.trans (hb3.mono HBW2.out.size)).setCell (Nat.le_refl _) _).setCell (Nat.le_refl _) _).setCell (Nat.le_refl _) _
    have hlx4 : w.heap.size < (((w3.setCell ⟨w.heap.size, 0, none⟩ (.int .i64 1)).setCell ⟨w.heap.size, 1, none⟩ (.int .i64 0)).setCell ⟨w.heap.size, 2, none⟩ (.string ⟨#[]⟩)).heap.size := hk4.lt
    have HBX4 := Lib.hid (HB.out.below hb24)
    have HK4 := Lib.hid hk4
    have HBW4 := Lib.hid hb24
    clear z0 z1 z2 hb3 hk3 hk4 hb24
    generalize hw4 : (((w3.setCell ⟨w.heap.size, 0, none⟩ (.int .i64 1)).setCell ⟨w.heap.size, 1, none⟩ (.int .i64 0)).setCell ⟨w.heap.size, 2, none⟩ (.string ⟨#[]⟩)) = w4 at *
    go_wp2_with (first | rw [hw4])
    clear z0' z1' z2' zf hw4
    have HL3 : Hid (Calls Try.prog 64 #[.pointer (some ⟨b, 0, none⟩), .slice (some ⟨w4.heap.size, 0, none⟩) 1 1] ((w4.alloc (.cells #[.int .u8 1] 5)).drew) fun e w' => e = .returned (.tuple #[]) ∧ ∃ F', Buf w' t b F' rest (l ++ [UInt8.ofNat 1]) ∧ Only (fun q => F q ∧ q < w.heap.size) w4 w' ∧ ∀ q, F' q → (fun q => F q ∧ q < w.heap.size) q ∨ w4.heap.size ≤ q) := lay_drew w4 t b (fun q => F q ∧ q < w.heap.size) rest l HBX4.out 1 1 (by omega) rfl (by omega)
    have hag0 : Agree (fun q => q = w.heap.size) w4.drew ((w4.alloc (.cells #[.int .u8 1] 5)).drew) := agree_alloc (w := w4) _ (by intro q hq; subst hq; exact hlx4)
    have x0 : w4.cell? ⟨w.heap.size, 0, none⟩ = some (.int .i64 1) := HK4.out.cell 0
    refine wp_region_lit_plan [] [(0, 0), (1, 0), (2, 0), (3, 0), (4, 1), (5, 0), (6, 4), (7, 4)] (fun q => q = w.heap.size) (by kernel_rfl) (by kernel_rfl) (fun c a d v w h => by cases d <;> exact h) ?_
    go_wp2_with (first
      | (refine plan_pure (v := _) (by rfl) (by rfl) (by rfl) (by intro _; go_simp; with_reducible rfl) ?_; simp only [List.setIfInBounds_toArray, List.set_cons_zero, List.set_cons_succ]; try go_bits) | (refine plan_read (v := _) (by rfl) (by rfl) (by rfl) (by go_simp; with_reducible rfl) ?_; simp only [List.setIfInBounds_toArray, List.set_cons_zero, List.set_cons_succ]; try go_bits) | (refine plan_readB (v := _) (by rfl) (by rfl) (by rfl) (by intro _ hag; unfold Agree at hag; go_simp; with_reducible rfl) ?_; simp only [List.setIfInBounds_toArray, List.set_cons_zero, List.set_cons_succ]; try go_bits) | (refine plan_skip0 (by rfl) (by rfl) (by rfl) ?_; simp only [List.setIfInBounds_toArray, List.set_cons_zero, List.set_cons_succ]; try go_bits) | (refine plan_skip1 (by rfl) (by rfl) (by rfl) ?_; simp only [List.setIfInBounds_toArray, List.set_cons_zero, List.set_cons_succ]; try go_bits) | (refine plan_skip2 (by rfl) (by rfl) (by rfl) ?_; simp only [List.setIfInBounds_toArray, List.set_cons_zero, List.set_cons_succ]; try go_bits) | (refine plan_skip4 (by rfl) (by rfl) (by rfl) ?_; simp only [List.setIfInBounds_toArray, List.set_cons_zero, List.set_cons_succ]; try go_bits) | (refine plan_any (by rfl) ?_) | (refine plan_keep (by rfl) ?_) | (refine plan_nil ?_) | (with_reducible refine And.intro (by first | assumption | exact Agree.refl _ _ | exact agree_drew _ _ | exact agree_alloc _ (by intro k hk; subst hk; first | omega | (simp; omega))) ?_) | (unfold Act.put; simp only [List.setIfInBounds_toArray, List.set_cons_zero, List.set_cons_succ])
      | (go_at_call 64; refine HL3.out.mono ?_; clear HL3; rintro e w5 ⟨rfl, F5, h51, h52, h53⟩;
         have HK5 := Lib.hid (HK4.out.only h52 (fun h => Nat.lt_irrefl _ h.2));
         have y0 : w5.cell? ⟨w.heap.size, 0, none⟩ = some (.int .i64 1) := HK5.out.cell 0; have y1 : w5.cell? ⟨w.heap.size, 1, none⟩ = some (.int .i64 0) := HK5.out.cell 1; have y2 : w5.cell? ⟨w.heap.size, 2, none⟩ = some (.string ⟨#[]⟩) := HK5.out.cell 2;
         have H51 := Lib.hid h51.tight; have H52 := Lib.hid h52; have H53 := Lib.hid h53; clear h51 h52 h53))
    have hw6 : Below w5.heap.size w5 (w5.alloc (.cells #[.int .i64 0] 2)) := (Below.refl _ _).alloc (Nat.le_refl _) _
    have hsl6 : Sl (w5.alloc (.cells #[.int .i64 0] 2)) (fun q => ¬ (F5 q ∧ q < w5.heap.size)) 1 (.slice (some ⟨w5.heap.size, 0, none⟩) 1 1) [0].length (ints [0]) :=
      (Own.made w5 2 1 (ints [0]) [] 1 1 rfl (Ones.nil.cons rfl) (Nat.le_refl _) (by simp [maxLen]) (by simp [ints])).sl (fun q hq h => absurd h.2 (Nat.not_lt_of_le (Nat.le_of_eq (show w5.heap.size = q by simpa [Value.ownBlock] using hq))))
    have HS6 := Lib.hid (signed_wr (w5.alloc (.cells #[.int .i64 0] 2)) t b _ rest _ (H51.out.below hw6) _ [0] hsl6 (by intro q hq; rw [List.mem_singleton.1 hq]; unfold fit64; omega) (by simp; omega) (by simp))
    clear hw6 hsl6
    go_wp2_with (go_at_call 80; refine HS6.out.mono ?_; clear HS6; rintro e w7 ⟨rfl, F7, h71, h72, h73⟩)
    go_end0
    have ho5 : Only (fun q => F q ∧ q < w.heap.size) w w5 := (Only.of_none HBW4.out).trans H52.out (fun _ _ h => h)
    have ho6 : Only (fun q => F q ∧ q < w.heap.size) w (w5.alloc (.cells #[.int .i64 0] 2)) := ho5.alloc _
    have ho7 : Only (fun q => F q ∧ q < w.heap.size) w w7 := ho6.trans h72 (fun q hq h => by
      rcases H53.out q h.1 with h2 | h2
      · exact h2
      · exact absurd (Nat.lt_of_lt_of_le hq HBW4.out.size) (by omega))
    refine ⟨rfl, F7, ?_, ho7.mono (fun q _ h => h.1), fun q hq => ?_⟩
    · have e1 : valB ⟨k, n, s⟩ = [UInt8.ofNat 1] ++ laid signB [0] := by unfold valB; rw [if_neg (by rw [HVR.out]; decide)]; simp [rightB, laid, AV.zero]
      rw [e1, ← List.append_assoc]; exact h71
    · rcases h73 q hq with h | h
      · rcases H53.out q h.1 with h2 | h2
        · exact .inl h2.1
        · exact .inr (Nat.le_trans HBW4.out.size h2)
      · exact .inr (Nat.le_trans ho6.size h)
  · have hcase : k = 1 ∨ (k = 2 ∧ n = 0) ∨ (k = 3 ∧ (n = 0 ∨ n = 1)) := by
      have := HVR.out
      simp [AV.right] at this
      omega
    rcases hcase with rfl | ⟨rfl, rfl⟩ | ⟨rfl, hn01⟩
    · go_wp2
      have HL3 : Hid (Calls Try.prog 64 #[.pointer (some ⟨b, 0, none⟩), .slice (some ⟨w2.heap.size, 0, none⟩) 1 1] ((w2.alloc (.cells #[.int .u8 1] 5)).drew) fun e w' => e = .returned (.tuple #[]) ∧ ∃ F', Buf w' t b F' rest (l ++ [UInt8.ofNat 1]) ∧ Only (fun q => F q ∧ q < w.heap.size) w2 w' ∧ ∀ q, F' q → (fun q => F q ∧ q < w.heap.size) q ∨ w2.heap.size ≤ q) := lay_drew w2 t b (fun q => F q ∧ q < w.heap.size) rest l HBX.out 1 1 (by omega) rfl (by omega)
      have hag0 : Agree (fun q => q = w.heap.size) w2.drew ((w2.alloc (.cells #[.int .u8 1] 5)).drew) := agree_alloc (w := w2) _ (by intro q hq; subst hq; exact hlx)
      have x0 : w2.cell? ⟨w.heap.size, 0, none⟩ = some (.int .i64 1) := HK2.out.cell 0
      refine wp_region_lit_plan [] [(0, 0), (1, 0), (2, 0), (3, 0), (4, 1), (5, 0), (6, 4), (7, 4)] (fun q => q = w.heap.size) (by kernel_rfl) (by kernel_rfl) (fun c a d v w h => by cases d <;> exact h) ?_
      go_wp2_with (first
        | (refine plan_pure (v := _) (by rfl) (by rfl) (by rfl) (by intro _; go_simp; with_reducible rfl) ?_; simp only [List.setIfInBounds_toArray, List.set_cons_zero, List.set_cons_succ]; try go_bits) | (refine plan_read (v := _) (by rfl) (by rfl) (by rfl) (by go_simp; with_reducible rfl) ?_; simp only [List.setIfInBounds_toArray, List.set_cons_zero, List.set_cons_succ]; try go_bits) | (refine plan_readB (v := _) (by rfl) (by rfl) (by rfl) (by intro _ hag; unfold Agree at hag; go_simp; with_reducible rfl) ?_; simp only [List.setIfInBounds_toArray, List.set_cons_zero, List.set_cons_succ]; try go_bits) | (refine plan_skip0 (by rfl) (by rfl) (by rfl) ?_; simp only [List.setIfInBounds_toArray, List.set_cons_zero, List.set_cons_succ]; try go_bits) | (refine plan_skip1 (by rfl) (by rfl) (by rfl) ?_; simp only [List.setIfInBounds_toArray, List.set_cons_zero, List.set_cons_succ]; try go_bits) | (refine plan_skip2 (by rfl) (by rfl) (by rfl) ?_; simp only [List.setIfInBounds_toArray, List.set_cons_zero, List.set_cons_succ]; try go_bits) | (refine plan_skip4 (by rfl) (by rfl) (by rfl) ?_; simp only [List.setIfInBounds_toArray, List.set_cons_zero, List.set_cons_succ]; try go_bits) | (refine plan_any (by rfl) ?_) | (refine plan_keep (by rfl) ?_) | (refine plan_nil ?_) | (with_reducible refine And.intro (by first | assumption | exact Agree.refl _ _ | exact agree_drew _ _ | exact agree_alloc _ (by intro k hk; subst hk; first | omega | (simp; omega))) ?_) | (unfold Act.put; simp only [List.setIfInBounds_toArray, List.set_cons_zero, List.set_cons_succ])
        | (go_at_call 64; refine HL3.out.mono ?_; clear HL3; rintro e w5 ⟨rfl, F5, h51, h52, h53⟩;
           have HK5 := Lib.hid (HK2.out.only h52 (fun h => Nat.lt_irrefl _ h.2));
           have y0 : w5.cell? ⟨w.heap.size, 0, none⟩ = some (.int .i64 1) := HK5.out.cell 0; have y1 : w5.cell? ⟨w.heap.size, 1, none⟩ = some (.int .i64 n) := HK5.out.cell 1; have y2 : w5.cell? ⟨w.heap.size, 2, none⟩ = some (.string s) := HK5.out.cell 2;
           have H51 := Lib.hid h51.tight; have H52 := Lib.hid h52; have H53 := Lib.hid h53; clear h51 h52 h53))
      have hw6 : Below w5.heap.size w5 (w5.alloc (.cells #[.int .i64 n] 2)) := (Below.refl _ _).alloc (Nat.le_refl _) _
      have hsl6 : Sl (w5.alloc (.cells #[.int .i64 n] 2)) (fun q => ¬ (F5 q ∧ q < w5.heap.size)) 1 (.slice (some ⟨w5.heap.size, 0, none⟩) 1 1) [n].length (ints [n]) :=
        (Own.made w5 2 1 (ints [n]) [] 1 1 rfl (Ones.nil.cons rfl) (Nat.le_refl _) (by simp [maxLen]) (by simp [ints])).sl (fun q hq h => absurd h.2 (Nat.not_lt_of_le (Nat.le_of_eq (show w5.heap.size = q by simpa [Value.ownBlock] using hq))))
      have HS6 := Lib.hid (signed_wr (w5.alloc (.cells #[.int .i64 n] 2)) t b _ rest _ (H51.out.below hw6) _ [n] hsl6 (by intro q hq; rw [List.mem_singleton.1 hq]; exact hn) (by simp; omega) (by simp))
      clear hw6 hsl6
      go_wp2_with (go_at_call 80; refine HS6.out.mono ?_; clear HS6; rintro e w7 ⟨rfl, F7, h71, h72, h73⟩)
      go_end0
      have ho5 : Only (fun q => F q ∧ q < w.heap.size) w w5 := (Only.of_none HBW2.out).trans H52.out (fun _ _ h => h)
      have ho6 : Only (fun q => F q ∧ q < w.heap.size) w (w5.alloc (.cells #[.int .i64 n] 2)) := ho5.alloc _
      have ho7 : Only (fun q => F q ∧ q < w.heap.size) w w7 := ho6.trans h72 (fun q hq h => by
        rcases H53.out q h.1 with h2 | h2
        · exact h2
        · exact absurd (Nat.lt_of_lt_of_le hq HBW2.out.size) (by omega))
      refine ⟨rfl, F7, ?_, ho7.mono (fun q _ h => h.1), fun q hq => ?_⟩
      · have e1 : valB ⟨1, n, s⟩ = [UInt8.ofNat 1] ++ laid signB [n] := by unfold valB; rw [if_pos HVR.out]; simp [rightB, laid]
        rw [e1, ← List.append_assoc]; exact h71
      · rcases h73 q hq with h | h
        · rcases H53.out q h.1 with h2 | h2
          · exact .inl h2.1
          · exact .inr (Nat.le_trans HBW2.out.size h2)
        · exact .inr (Nat.le_trans ho6.size h)
    · go_wp2
      have HL3 : Hid (Calls Try.prog 64 #[.pointer (some ⟨b, 0, none⟩), .slice (some ⟨w2.heap.size, 0, none⟩) 1 1] ((w2.alloc (.cells #[.int .u8 2] 5)).drew) fun e w' => e = .returned (.tuple #[]) ∧ ∃ F', Buf w' t b F' rest (l ++ [UInt8.ofNat 2]) ∧ Only (fun q => F q ∧ q < w.heap.size) w2 w' ∧ ∀ q, F' q → (fun q => F q ∧ q < w.heap.size) q ∨ w2.heap.size ≤ q) := lay_drew w2 t b (fun q => F q ∧ q < w.heap.size) rest l HBX.out 2 2 (by omega) rfl (by omega)
      have hag0 : Agree (fun q => q = w.heap.size) w2.drew ((w2.alloc (.cells #[.int .u8 2] 5)).drew) := agree_alloc (w := w2) _ (by intro q hq; subst hq; exact hlx)
      have x0 : w2.cell? ⟨w.heap.size, 0, none⟩ = some (.int .i64 2) := HK2.out.cell 0
      refine wp_region_lit_plan [] [(0, 0), (1, 0), (2, 0), (3, 0), (4, 1), (5, 0), (6, 4), (7, 4)] (fun q => q = w.heap.size) (by kernel_rfl) (by kernel_rfl) (fun c a d v w h => by cases d <;> exact h) ?_
      go_wp2_with (first
        | (refine plan_pure (v := _) (by rfl) (by rfl) (by rfl) (by intro _; go_simp; with_reducible rfl) ?_; simp only [List.setIfInBounds_toArray, List.set_cons_zero, List.set_cons_succ]; try go_bits) | (refine plan_read (v := _) (by rfl) (by rfl) (by rfl) (by go_simp; with_reducible rfl) ?_; simp only [List.setIfInBounds_toArray, List.set_cons_zero, List.set_cons_succ]; try go_bits) | (refine plan_readB (v := _) (by rfl) (by rfl) (by rfl) (by intro _ hag; unfold Agree at hag; go_simp; with_reducible rfl) ?_; simp only [List.setIfInBounds_toArray, List.set_cons_zero, List.set_cons_succ]; try go_bits) | (refine plan_skip0 (by rfl) (by rfl) (by rfl) ?_; simp only [List.setIfInBounds_toArray, List.set_cons_zero, List.set_cons_succ]; try go_bits) | (refine plan_skip1 (by rfl) (by rfl) (by rfl) ?_; simp only [List.setIfInBounds_toArray, List.set_cons_zero, List.set_cons_succ]; try go_bits) | (refine plan_skip2 (by rfl) (by rfl) (by rfl) ?_; simp only [List.setIfInBounds_toArray, List.set_cons_zero, List.set_cons_succ]; try go_bits) | (refine plan_skip4 (by rfl) (by rfl) (by rfl) ?_; simp only [List.setIfInBounds_toArray, List.set_cons_zero, List.set_cons_succ]; try go_bits) | (refine plan_any (by rfl) ?_) | (refine plan_keep (by rfl) ?_) | (refine plan_nil ?_) | (with_reducible refine And.intro (by first | assumption | exact Agree.refl _ _ | exact agree_drew _ _ | exact agree_alloc _ (by intro k hk; subst hk; first | omega | (simp; omega))) ?_) | (unfold Act.put; simp only [List.setIfInBounds_toArray, List.set_cons_zero, List.set_cons_succ])
        | (go_at_call 64; refine HL3.out.mono ?_; clear HL3; rintro e w5 ⟨rfl, F5, h51, h52, h53⟩;
           have HK5 := Lib.hid (HK2.out.only h52 (fun h => Nat.lt_irrefl _ h.2));
           have y0 : w5.cell? ⟨w.heap.size, 0, none⟩ = some (.int .i64 2) := HK5.out.cell 0; have y1 : w5.cell? ⟨w.heap.size, 1, none⟩ = some (.int .i64 0) := HK5.out.cell 1; have y2 : w5.cell? ⟨w.heap.size, 2, none⟩ = some (.string s) := HK5.out.cell 2;
           have H51 := Lib.hid h51.tight; have H52 := Lib.hid h52; have H53 := Lib.hid h53; clear h51 h52 h53))
      have hw6 : Below w5.heap.size w5 (w5.alloc (.cells #[.string s] 9)) := (Below.refl _ _).alloc (Nat.le_refl _) _
      have hsl6 : Sl (w5.alloc (.cells #[.string s] 9)) (fun q => ¬ (F5 q ∧ q < w5.heap.size)) 1 (.slice (some ⟨w5.heap.size, 0, none⟩) 1 1) [s].length (strs [s]) :=
        (Own.made w5 9 1 (strs [s]) [] 1 1 rfl (Ones.nil.cons rfl) (Nat.le_refl _) (by simp [maxLen]) (by simp [strs])).sl (fun q hq h => absurd h.2 (Nat.not_lt_of_le (Nat.le_of_eq (show w5.heap.size = q by simpa [Value.ownBlock] using hq))))
      have HS6 := Lib.hid (text_wr (w5.alloc (.cells #[.string s] 9)) t b _ rest _ (H51.out.below hw6) _ [s] hsl6 (by intro q hq; rw [List.mem_singleton.1 hq]; first | exact hs HVR.out | exact hs trivial) (by simp; omega) (by simp))
      clear hw6 hsl6
      go_wp2_with (go_at_call 81; refine HS6.out.mono ?_; clear HS6; rintro e w7 ⟨rfl, F7, h71, h72, h73⟩)
      go_end0
      have ho5 : Only (fun q => F q ∧ q < w.heap.size) w w5 := (Only.of_none HBW2.out).trans H52.out (fun _ _ h => h)
      have ho6 : Only (fun q => F q ∧ q < w.heap.size) w (w5.alloc (.cells #[.string s] 9)) := ho5.alloc _
      have ho7 : Only (fun q => F q ∧ q < w.heap.size) w w7 := ho6.trans h72 (fun q hq h => by
        rcases H53.out q h.1 with h2 | h2
        · exact h2
        · exact absurd (Nat.lt_of_lt_of_le hq HBW2.out.size) (by omega))
      refine ⟨rfl, F7, ?_, ho7.mono (fun q _ h => h.1), fun q hq => ?_⟩
      · have e1 : valB ⟨2, 0, s⟩ = [UInt8.ofNat 2] ++ laid textB [s] := by unfold valB; rw [if_pos HVR.out]; simp [rightB, laid]
        rw [e1, ← List.append_assoc]; exact h71
      · rcases h73 q hq with h | h
        · rcases H53.out q h.1 with h2 | h2
          · exact .inl h2.1
          · exact .inr (Nat.le_trans HBW2.out.size h2)
        · exact .inr (Nat.le_trans ho6.size h)
    · rcases hn01 with rfl | rfl
      · go_wp2
        have HL3 : Hid (Calls Try.prog 64 #[.pointer (some ⟨b, 0, none⟩), .slice (some ⟨w2.heap.size, 0, none⟩) 1 1] ((w2.alloc (.cells #[.int .u8 3] 5)).drew) fun e w' => e = .returned (.tuple #[]) ∧ ∃ F', Buf w' t b F' rest (l ++ [UInt8.ofNat 3]) ∧ Only (fun q => F q ∧ q < w.heap.size) w2 w' ∧ ∀ q, F' q → (fun q => F q ∧ q < w.heap.size) q ∨ w2.heap.size ≤ q) := lay_drew w2 t b (fun q => F q ∧ q < w.heap.size) rest l HBX.out 3 3 (by omega) rfl (by omega)
        have hag0 : Agree (fun q => q = w.heap.size) w2.drew ((w2.alloc (.cells #[.int .u8 3] 5)).drew) := agree_alloc (w := w2) _ (by intro q hq; subst hq; exact hlx)
        have x0 : w2.cell? ⟨w.heap.size, 0, none⟩ = some (.int .i64 3) := HK2.out.cell 0
        refine wp_region_lit_plan [] [(0, 0), (1, 0), (2, 0), (3, 0), (4, 1), (5, 0), (6, 4), (7, 4)] (fun q => q = w.heap.size) (by kernel_rfl) (by kernel_rfl) (fun c a d v w h => by cases d <;> exact h) ?_
        go_wp2_with (first
          | (refine plan_pure (v := _) (by rfl) (by rfl) (by rfl) (by intro _; go_simp; with_reducible rfl) ?_; simp only [List.setIfInBounds_toArray, List.set_cons_zero, List.set_cons_succ]; try go_bits) | (refine plan_read (v := _) (by rfl) (by rfl) (by rfl) (by go_simp; with_reducible rfl) ?_; simp only [List.setIfInBounds_toArray, List.set_cons_zero, List.set_cons_succ]; try go_bits) | (refine plan_readB (v := _) (by rfl) (by rfl) (by rfl) (by intro _ hag; unfold Agree at hag; go_simp; with_reducible rfl) ?_; simp only [List.setIfInBounds_toArray, List.set_cons_zero, List.set_cons_succ]; try go_bits) | (refine plan_skip0 (by rfl) (by rfl) (by rfl) ?_; simp only [List.setIfInBounds_toArray, List.set_cons_zero, List.set_cons_succ]; try go_bits) | (refine plan_skip1 (by rfl) (by rfl) (by rfl) ?_; simp only [List.setIfInBounds_toArray, List.set_cons_zero, List.set_cons_succ]; try go_bits) | (refine plan_skip2 (by rfl) (by rfl) (by rfl) ?_; simp only [List.setIfInBounds_toArray, List.set_cons_zero, List.set_cons_succ]; try go_bits) | (refine plan_skip4 (by rfl) (by rfl) (by rfl) ?_; simp only [List.setIfInBounds_toArray, List.set_cons_zero, List.set_cons_succ]; try go_bits) | (refine plan_any (by rfl) ?_) | (refine plan_keep (by rfl) ?_) | (refine plan_nil ?_) | (with_reducible refine And.intro (by first | assumption | exact Agree.refl _ _ | exact agree_drew _ _ | exact agree_alloc _ (by intro k hk; subst hk; first | omega | (simp; omega))) ?_) | (unfold Act.put; simp only [List.setIfInBounds_toArray, List.set_cons_zero, List.set_cons_succ])
          | (go_at_call 64; refine HL3.out.mono ?_; clear HL3; rintro e w5 ⟨rfl, F5, h51, h52, h53⟩;
             have HK5 := Lib.hid (HK2.out.only h52 (fun h => Nat.lt_irrefl _ h.2));
             have y0 : w5.cell? ⟨w.heap.size, 0, none⟩ = some (.int .i64 3) := HK5.out.cell 0; have y1 : w5.cell? ⟨w.heap.size, 1, none⟩ = some (.int .i64 0) := HK5.out.cell 1; have y2 : w5.cell? ⟨w.heap.size, 2, none⟩ = some (.string s) := HK5.out.cell 2;
             have H51 := Lib.hid h51.tight; have H52 := Lib.hid h52; have H53 := Lib.hid h53; clear h51 h52 h53))
        have HL5 := lay_drew w5 t b _ rest _ H51.out 0 0 (by omega) (by omega) (by simp; omega)
        have hl5 : w.heap.size < w5.heap.size := Nat.lt_of_lt_of_le hlx H52.out.size
        have hag5 : Agree (fun q => q = w.heap.size) w5.drew ((w5.alloc (.cells #[.int .u8 0] 5)).drew) := agree_alloc (w := w5) _ (by intro q hq; subst hq; exact hl5)
        go_wp2
        refine wp_region_lit_plan [] [(0, 0), (1, 0), (2, 0), (3, 0), (4, 1), (5, 0), (6, 4), (7, 4)] (fun q => q = w.heap.size) (by kernel_rfl) (by kernel_rfl) (fun c a d v w h => by cases d <;> exact h) ?_
        go_wp2_with (first
          | (refine plan_pure (v := _) (by rfl) (by rfl) (by rfl) (by intro _; go_simp; with_reducible rfl) ?_; simp only [List.setIfInBounds_toArray, List.set_cons_zero, List.set_cons_succ]; try go_bits) | (refine plan_read (v := _) (by rfl) (by rfl) (by rfl) (by go_simp; with_reducible rfl) ?_; simp only [List.setIfInBounds_toArray, List.set_cons_zero, List.set_cons_succ]; try go_bits) | (refine plan_readB (v := _) (by rfl) (by rfl) (by rfl) (by intro _ hag; unfold Agree at hag; go_simp; with_reducible rfl) ?_; simp only [List.setIfInBounds_toArray, List.set_cons_zero, List.set_cons_succ]; try go_bits) | (refine plan_skip0 (by rfl) (by rfl) (by rfl) ?_; simp only [List.setIfInBounds_toArray, List.set_cons_zero, List.set_cons_succ]; try go_bits) | (refine plan_skip1 (by rfl) (by rfl) (by rfl) ?_; simp only [List.setIfInBounds_toArray, List.set_cons_zero, List.set_cons_succ]; try go_bits) | (refine plan_skip2 (by rfl) (by rfl) (by rfl) ?_; simp only [List.setIfInBounds_toArray, List.set_cons_zero, List.set_cons_succ]; try go_bits) | (refine plan_skip4 (by rfl) (by rfl) (by rfl) ?_; simp only [List.setIfInBounds_toArray, List.set_cons_zero, List.set_cons_succ]; try go_bits) | (refine plan_any (by rfl) ?_) | (refine plan_keep (by rfl) ?_) | (refine plan_nil ?_) | (with_reducible refine And.intro (by first | assumption | exact Agree.refl _ _ | exact agree_drew _ _ | exact agree_alloc _ (by intro k hk; subst hk; first | omega | (simp; omega))) ?_) | (unfold Act.put; simp only [List.setIfInBounds_toArray, List.set_cons_zero, List.set_cons_succ])
          | (go_at_call 64; refine HL5.out.mono ?_; clear HL5; rintro e w7 ⟨rfl, F7, h71, h72, h73⟩))
        go_end0
        have ho5 : Only (fun q => F q ∧ q < w.heap.size) w w5 := (Only.of_none HBW2.out).trans H52.out (fun _ _ h => h)
        have ho7 : Only (fun q => F q ∧ q < w.heap.size) w w7 := ho5.trans h72 (fun q hq h => by
          rcases H53.out q h.1 with h2 | h2
          · exact h2
          · exact absurd (Nat.lt_of_lt_of_le hq HBW2.out.size) (by omega))
        refine ⟨rfl, F7, ?_, ho7.mono (fun q _ h => h.1), fun q hq => ?_⟩
        · have e1 : valB ⟨3, 0, s⟩ = [UInt8.ofNat 3] ++ [UInt8.ofNat 0] := by unfold valB; rw [if_pos HVR.out]; simp [rightB]
          rw [e1, ← List.append_assoc]; exact h71
        · rcases h73 q hq with h | h
          · rcases H53.out q h.1 with h2 | h2
            · exact .inl h2.1
            · exact .inr (Nat.le_trans HBW2.out.size h2)
          · exact .inr (Nat.le_trans ho5.size h)
      · go_wp2
        have HL3 : Hid (Calls Try.prog 64 #[.pointer (some ⟨b, 0, none⟩), .slice (some ⟨w2.heap.size, 0, none⟩) 1 1] ((w2.alloc (.cells #[.int .u8 3] 5)).drew) fun e w' => e = .returned (.tuple #[]) ∧ ∃ F', Buf w' t b F' rest (l ++ [UInt8.ofNat 3]) ∧ Only (fun q => F q ∧ q < w.heap.size) w2 w' ∧ ∀ q, F' q → (fun q => F q ∧ q < w.heap.size) q ∨ w2.heap.size ≤ q) := lay_drew w2 t b (fun q => F q ∧ q < w.heap.size) rest l HBX.out 3 3 (by omega) rfl (by omega)
        have hag0 : Agree (fun q => q = w.heap.size) w2.drew ((w2.alloc (.cells #[.int .u8 3] 5)).drew) := agree_alloc (w := w2) _ (by intro q hq; subst hq; exact hlx)
        have x0 : w2.cell? ⟨w.heap.size, 0, none⟩ = some (.int .i64 3) := HK2.out.cell 0
        refine wp_region_lit_plan [] [(0, 0), (1, 0), (2, 0), (3, 0), (4, 1), (5, 0), (6, 4), (7, 4)] (fun q => q = w.heap.size) (by kernel_rfl) (by kernel_rfl) (fun c a d v w h => by cases d <;> exact h) ?_
        go_wp2_with (first
          | (refine plan_pure (v := _) (by rfl) (by rfl) (by rfl) (by intro _; go_simp; with_reducible rfl) ?_; simp only [List.setIfInBounds_toArray, List.set_cons_zero, List.set_cons_succ]; try go_bits) | (refine plan_read (v := _) (by rfl) (by rfl) (by rfl) (by go_simp; with_reducible rfl) ?_; simp only [List.setIfInBounds_toArray, List.set_cons_zero, List.set_cons_succ]; try go_bits) | (refine plan_readB (v := _) (by rfl) (by rfl) (by rfl) (by intro _ hag; unfold Agree at hag; go_simp; with_reducible rfl) ?_; simp only [List.setIfInBounds_toArray, List.set_cons_zero, List.set_cons_succ]; try go_bits) | (refine plan_skip0 (by rfl) (by rfl) (by rfl) ?_; simp only [List.setIfInBounds_toArray, List.set_cons_zero, List.set_cons_succ]; try go_bits) | (refine plan_skip1 (by rfl) (by rfl) (by rfl) ?_; simp only [List.setIfInBounds_toArray, List.set_cons_zero, List.set_cons_succ]; try go_bits) | (refine plan_skip2 (by rfl) (by rfl) (by rfl) ?_; simp only [List.setIfInBounds_toArray, List.set_cons_zero, List.set_cons_succ]; try go_bits) | (refine plan_skip4 (by rfl) (by rfl) (by rfl) ?_; simp only [List.setIfInBounds_toArray, List.set_cons_zero, List.set_cons_succ]; try go_bits) | (refine plan_any (by rfl) ?_) | (refine plan_keep (by rfl) ?_) | (refine plan_nil ?_) | (with_reducible refine And.intro (by first | assumption | exact Agree.refl _ _ | exact agree_drew _ _ | exact agree_alloc _ (by intro k hk; subst hk; first | omega | (simp; omega))) ?_) | (unfold Act.put; simp only [List.setIfInBounds_toArray, List.set_cons_zero, List.set_cons_succ])
          | (go_at_call 64; refine HL3.out.mono ?_; clear HL3; rintro e w5 ⟨rfl, F5, h51, h52, h53⟩;
             have HK5 := Lib.hid (HK2.out.only h52 (fun h => Nat.lt_irrefl _ h.2));
             have y0 : w5.cell? ⟨w.heap.size, 0, none⟩ = some (.int .i64 3) := HK5.out.cell 0; have y1 : w5.cell? ⟨w.heap.size, 1, none⟩ = some (.int .i64 1) := HK5.out.cell 1; have y2 : w5.cell? ⟨w.heap.size, 2, none⟩ = some (.string s) := HK5.out.cell 2;
             have H51 := Lib.hid h51.tight; have H52 := Lib.hid h52; have H53 := Lib.hid h53; clear h51 h52 h53))
        have HL5 := lay_drew w5 t b _ rest _ H51.out 1 1 (by omega) (by omega) (by simp; omega)
        have hl5 : w.heap.size < w5.heap.size := Nat.lt_of_lt_of_le hlx H52.out.size
        have hag5 : Agree (fun q => q = w.heap.size) w5.drew ((w5.alloc (.cells #[.int .u8 1] 5)).drew) := agree_alloc (w := w5) _ (by intro q hq; subst hq; exact hl5)
        go_wp2
        refine wp_region_lit_plan [] [(0, 0), (1, 0), (2, 0), (3, 0), (4, 1), (5, 0), (6, 4), (7, 4)] (fun q => q = w.heap.size) (by kernel_rfl) (by kernel_rfl) (fun c a d v w h => by cases d <;> exact h) ?_
        go_wp2_with (first
          | (refine plan_pure (v := _) (by rfl) (by rfl) (by rfl) (by intro _; go_simp; with_reducible rfl) ?_; simp only [List.setIfInBounds_toArray, List.set_cons_zero, List.set_cons_succ]; try go_bits) | (refine plan_read (v := _) (by rfl) (by rfl) (by rfl) (by go_simp; with_reducible rfl) ?_; simp only [List.setIfInBounds_toArray, List.set_cons_zero, List.set_cons_succ]; try go_bits) | (refine plan_readB (v := _) (by rfl) (by rfl) (by rfl) (by intro _ hag; unfold Agree at hag; go_simp; with_reducible rfl) ?_; simp only [List.setIfInBounds_toArray, List.set_cons_zero, List.set_cons_succ]; try go_bits) | (refine plan_skip0 (by rfl) (by rfl) (by rfl) ?_; simp only [List.setIfInBounds_toArray, List.set_cons_zero, List.set_cons_succ]; try go_bits) | (refine plan_skip1 (by rfl) (by rfl) (by rfl) ?_; simp only [List.setIfInBounds_toArray, List.set_cons_zero, List.set_cons_succ]; try go_bits) | (refine plan_skip2 (by rfl) (by rfl) (by rfl) ?_; simp only [List.setIfInBounds_toArray, List.set_cons_zero, List.set_cons_succ]; try go_bits) | (refine plan_skip4 (by rfl) (by rfl) (by rfl) ?_; simp only [List.setIfInBounds_toArray, List.set_cons_zero, List.set_cons_succ]; try go_bits) | (refine plan_any (by rfl) ?_) | (refine plan_keep (by rfl) ?_) | (refine plan_nil ?_) | (with_reducible refine And.intro (by first | assumption | exact Agree.refl _ _ | exact agree_drew _ _ | exact agree_alloc _ (by intro k hk; subst hk; first | omega | (simp; omega))) ?_) | (unfold Act.put; simp only [List.setIfInBounds_toArray, List.set_cons_zero, List.set_cons_succ])
          | (go_at_call 64; refine HL5.out.mono ?_; clear HL5; rintro e w7 ⟨rfl, F7, h71, h72, h73⟩))
        go_end0
        have ho5 : Only (fun q => F q ∧ q < w.heap.size) w w5 := (Only.of_none HBW2.out).trans H52.out (fun _ _ h => h)
        have ho7 : Only (fun q => F q ∧ q < w.heap.size) w w7 := ho5.trans h72 (fun q hq h => by
          rcases H53.out q h.1 with h2 | h2
          · exact h2
          · exact absurd (Nat.lt_of_lt_of_le hq HBW2.out.size) (by omega))
        refine ⟨rfl, F7, ?_, ho7.mono (fun q _ h => h.1), fun q hq => ?_⟩
        · have e1 : valB ⟨3, 1, s⟩ = [UInt8.ofNat 3] ++ [UInt8.ofNat 1] := by unfold valB; rw [if_pos HVR.out]; simp [rightB]
          rw [e1, ← List.append_assoc]; exact h71
        · rcases h73 q hq with h | h
          · rcases H53.out q h.1 with h2 | h2
            · exact .inl h2.1
            · exact .inr (Nat.le_trans HBW2.out.size h2)
          · exact .inr (Nat.le_trans ho5.size h)
end Go.Proofs.Ytedcljahcedpjaa
/- The writer: values, rows. -/
namespace Go.Proofs.Ytedcljahcedpjaa
open Go.RowKit Go.Afx

theorem right_size (v : AV) (h : v.right = true) : v.s.size ≤ 1000 := by
  have h2 := size_list v.s _ rfl
  have h3 : v.s.toList = v.s.data.toList := ByteArray.toList_eq _
  unfold AV.right at h
  simp only [Bool.or_eq_true, Bool.and_eq_true, decide_eq_true_iff, h3, List.isEmpty_iff] at h
  rcases h with (h | h) | h
  · rw [h2, h.2]; simp
  · omega
  · rw [h2, h.2]; simp
theorem valB_len (v : AV) (hn : fit64 v.n) : (valB v).length ≤ 1010 := by
  have hs : ∀ n, fit64 n → (signB n).length ≤ 9 := fun n h => be_len8 _ (by unfold fit64 at h; unfold zig; split <;> omega)
  have hr : ∀ v : AV, fit64 v.n → (v.kind = 2 → v.s.size ≤ 1000) → (rightB v).length ≤ 1010 := fun v h1 h2 => by
    unfold rightB
    rw [List.length_cons]
    split
    · have := hs v.n h1; omega
    · split
      · rename_i h3
        have h4 := be_len8 v.s.size (by have := h2 h3; omega)
        have h5 := size_list v.s _ rfl
        unfold textB
        rw [List.length_append]
        have := h2 h3
        omega
      · simp
  unfold valB
  split
  · rename_i h
    exact hr v hn (fun _ => right_size v h)
  · exact hr _ (by unfold fit64 AV.zero; simp) (fun h => by simp [AV.zero] at h)

set_option maxRecDepth 100000 in
set_option maxHeartbeats 1000000 in
theorem value_wr (w : World) (t : TypeId) (b : Nat) (F : Nat → Prop) (rest : List Value) (l : List UInt8) (hb : Buf w t b F rest l) (v : Value) (x : List AV) (hx : Sl w (fun k => ¬ F k) 3 v x.length (rowCells x)) (hf : ∀ a ∈ x, fit64 a.n) (hlen : l.length ≤ 40000000) (hxl : x.length ≤ 1000) :
    Calls Try.prog 65 #[.pointer (some ⟨b, 0, none⟩), v] w fun e w' => e = .returned (.pointer (some ⟨b, 0, none⟩)) ∧ ∃ F', Buf w' t b F' rest (l ++ laid valB x) ∧ Only F w w' ∧ ∀ k, F' k → F k ∨ w.heap.size ≤ k := by
  obtain ⟨p, cap, rfl, hc1, hc2⟩ := hx.form
  have HB := Lib.hid hb
  have HX := Lib.hid hx
  have HF := Lib.hid hf
  clear hb hx hf
  go_enter Try.func65, Try.ntmps65
  go_wp2
  go_loopw [9] (fun i wr => ∃ (k : Nat) (F3 : Nat → Prop), i = .int .i64 k ∧ k ≤ x.length ∧ Buf wr t b F3 rest (l ++ laid valB (x.take k)) ∧ Only F w wr ∧ ∀ q, F3 q → F q ∨ w.heap.size ≤ q) (fun i _ => x.length - (intOf i).toNat)
  case atStart => exact ⟨0, F, rfl, Nat.zero_le _, by simpa [laid] using HB.out, Only.refl _ _, fun q h => .inl h⟩
  case round =>
    obtain ⟨k, F3, rfl, hk, hb3, ho3, hf3⟩ := hrel
    have HB3 := Lib.hid hb3
    have HO3 := Lib.hid ho3
    have HF3 := Lib.hid hf3
    by_cases hka : k < x.length
    · have hxr : Sl wr (fun _ => True) 3 (.slice p x.length cap) x.length (rowCells x) := Sl.mono (HX.out.only ho3 (fun _ h => h)) (Nat.le_refl _) (fun _ _ _ => rfl) (fun _ _ _ => trivial)
      obtain ⟨g, off, cap', hv, hg, e0, e1, e2⟩ := sl_av hxr hka
      cases hv
      have hfx := HF.out x[k] (List.getElem_mem hka)
      have HN := Lib.hid (laid_next valB x k hka)
      have hll := laid_len valB 1010 (x.take k) (fun a ha => valB_len a (HF.out a (List.mem_of_mem_take ha)))
      have hlk : (x.take k).length ≤ 1000 := by rw [List.length_take]; omega
      clear hxr hb3 ho3 hf3
      generalize x[k] = a at *
      have hbx : Below wr.heap.size wr (wr.alloc (.cells #[.int .i64 a.kind, .int .i64 a.n, .string a.s] 86)) := (Below.refl _ _).alloc (Nat.le_refl _) _
      have hL := one_wr _ t b F3 rest _ (HB3.out.below hbx) a hfx (by rw [List.length_append]; omega) (right_size a)
      rw [List.append_assoc, ← HN.out] at hL
      have HL : Hid (Calls Try.prog 72 #[.pointer (some ⟨b, 0, none⟩), .agg #[.int .i64 a.kind, .int .i64 a.n, .string a.s]] (wr.alloc (.cells #[.int .i64 a.kind, .int .i64 a.n, .string a.s] 86)) fun e w' => e = .returned (.tuple #[]) ∧ ∃ F', Buf w' t b F' rest (l ++ laid valB (x.take (k + 1))) ∧ Only F3 wr w' ∧ ∀ k, F' k → F3 k ∨ wr.heap.size ≤ k) := hL.mono fun e w' ⟨he, F', h1, h2, h3⟩ =>
        ⟨he, F', h1, ((Only.refl F3 wr).alloc _).trans h2 (fun _ _ h => h), fun k hk => (h3 k hk).imp id (fun h => Nat.le_trans (by simp) h)⟩
      clear hbx
      clear hL hll hlk hfx
      go_wp2_with (go_at_call 72; refine HL.out.mono ?_; clear HL; rintro e w4 ⟨rfl, F4, h41, h42, h43⟩; have H41 := Lib.hid h41; have H42 := Lib.hid h42; have H43 := Lib.hid h43; clear h41 h42 h43)
      have ho4 : Only F w w4 := HO3.out.trans H42.out (fun q hq h => by
        rcases HF3.out q h with h2 | h2
        · exact h2
        · omega)
      refine ⟨⟨k + 1, F4, by congr 1, by omega, H41.out, ho4, fun q hq => ?_⟩, ?_⟩
      · rcases H43.out q hq with h | h
        · exact HF3.out q h
        · exact .inr (Nat.le_trans HO3.out.size h)
      · (simp [intOf]) <;> omega
    · obtain rfl : k = x.length := by omega
      clear hb3 ho3 hf3
      go_wp2
      go_ret
      refine ⟨rfl, F3, ?_, HO3.out, HF3.out⟩
      have := HB3.out
      rwa [List.take_length] at this
end Go.Proofs.Ytedcljahcedpjaa
/- The writer: a row, rows. -/
namespace Go.Proofs.Ytedcljahcedpjaa
open Go.RowKit Go.Afx

def rowB (l : List AV) : List UInt8 := sizeB l.length ++ laid valB l
theorem rowB_len (l : List AV) (h : ∀ a ∈ l, fit64 a.n) (hl : l.length ≤ 100) : (rowB l).length ≤ 101009 := by
  have h1 := laid_len valB 1010 l (fun a ha => valB_len a (h a ha))
  have h2 := be_len8 (max (l.length : Int) 0).toNat (by omega)
  unfold rowB sizeB
  rw [List.length_append]; omega

/-- A length, laid beside a new row that holds it. -/
theorem size_one (w : World) (t : TypeId) (b : Nat) (F : Nat → Prop) (rest : List Value) (l : List UInt8) (hb : Buf w t b F rest l) (n : Nat) (hn : n ≤ 1000000) (hlen : l.length ≤ 100000000) :
    Hid (Calls Try.prog 37 #[.pointer (some ⟨b, 0, none⟩), .slice (some ⟨w.heap.size, 0, none⟩) 1 1] (w.alloc (.cells #[.int .i64 n] 3)) fun e w' => e = .returned (.pointer (some ⟨b, 0, none⟩)) ∧ ∃ F', Buf w' t b F' rest (l ++ sizeB n) ∧ Only F w w' ∧ ∀ k, F' k → F k ∨ w.heap.size ≤ k) := by
  have hw6 : Below w.heap.size w (w.alloc (.cells #[.int .i64 n] 3)) := (Below.refl _ _).alloc (Nat.le_refl _) _
  have hsl6 : Sl (w.alloc (.cells #[.int .i64 n] 3)) (fun q => ¬ (F q ∧ q < w.heap.size)) 1 (.slice (some ⟨w.heap.size, 0, none⟩) 1 1) [(n : Int)].length (ints [(n : Int)]) :=
    (Own.made w 3 1 (ints [(n : Int)]) [] 1 1 rfl (Ones.nil.cons rfl) (Nat.le_refl _) (by simp [maxLen]) (by simp [ints])).sl (fun q hq h => absurd h.2 (Nat.not_lt_of_le (Nat.le_of_eq (show w.heap.size = q by simpa [Value.ownBlock] using hq))))
  refine (size_wr _ t b _ rest l (hb.tight.below hw6) _ [(n : Int)] hsl6 (by intro q hq; rw [List.mem_singleton.1 hq]; unfold fit64; omega) hlen (by simp)).mono ?_
  rintro e w' ⟨he, F', h1, h2, h3⟩
  refine ⟨he, F', by simpa [laid] using h1, (((Only.refl (fun q => F q ∧ q < w.heap.size) w).alloc _).trans h2 (fun _ _ h => h)).mono (fun _ _ h => h.1), fun k hk => ?_⟩
  rcases h3 k hk with h | h
  · exact .inl h.1
  · exact .inr (Nat.le_trans (by simp) h)

set_option maxRecDepth 100000 in
theorem row_wr (w : World) (t : TypeId) (b : Nat) (F : Nat → Prop) (rest : List Value) (l : List UInt8) (hb : Buf w t b F rest l) (v : Value) (x : List AV) (hx : Sl w (fun k => ¬ F k) 3 v x.length (rowCells x)) (hf : ∀ a ∈ x, fit64 a.n) (hlen : l.length ≤ 30000000) (hxl : x.length ≤ 1000) :
    Calls Try.prog 51 #[.pointer (some ⟨b, 0, none⟩), v] w fun e w' => e = .returned (.pointer (some ⟨b, 0, none⟩)) ∧ ∃ F', Buf w' t b F' rest (l ++ rowB x) ∧ Only F w w' ∧ ∀ k, F' k → F k ∨ w.heap.size ≤ k := by
  obtain ⟨p, cap, rfl, hc1, hc2⟩ := hx.form
  have HS := size_one w t b F rest l hb x.length (by omega) (by omega)
  have HV : Hid (∀ (w2 : World) (F2 : Nat → Prop), Buf w2 t b F2 rest (l ++ sizeB x.length) → Only F w w2 → (∀ k, F2 k → F k ∨ w.heap.size ≤ k) → Calls Try.prog 65 #[.pointer (some ⟨b, 0, none⟩), .slice p x.length cap] w2 fun e w' => e = .returned (.pointer (some ⟨b, 0, none⟩)) ∧ ∃ F', Buf w' t b F' rest (l ++ rowB x) ∧ Only F2 w2 w' ∧ ∀ k, F' k → F2 k ∨ w2.heap.size ≤ k) := fun w2 F2 h1 h2 h3 => by
    have hx2 : Sl w2 (fun k => ¬ F2 k) 3 (.slice p x.length cap) x.length (rowCells x) :=
      Sl.mono hx h2.size (fun k hk hlt => h2.block k hlt hk) (fun k hk hlt h => by
        rcases h3 k h with h4 | h4
        · exact hk h4
        · omega)
    have := value_wr w2 t b F2 rest _ h1 _ x hx2 hf (by
      have h2 := be_len8 (max (x.length : Int) 0).toNat (by omega)
      unfold sizeB
      rw [List.length_append]; omega) hxl
    rw [List.append_assoc] at this
    exact this
  clear hb hx hf
  go_enter Try.func51, Try.ntmps51
  go_wp2_with (first
    | (go_at_call 37; refine HS.out.mono ?_; clear HS; rintro e w2 ⟨rfl, F2, h21, h22, h23⟩; have HV2 := Lib.hid (HV.out w2 F2 h21 h22 h23); have H22 := Lib.hid h22; have H23 := Lib.hid h23; clear h21 h22 h23)
    | (go_at_call 65; refine HV2.out.mono ?_; clear HV2; rintro e w3 ⟨rfl, F3, h31, h32, h33⟩))
  go_ret
  refine ⟨rfl, F3, h31, H22.out.trans h32 (fun q hq h => ?_), fun q hq => ?_⟩
  · rcases H23.out q h with h2 | h2
    · exact h2
    · omega
  · rcases h33 q hq with h | h
    · exact H23.out q h
    · exact .inr (Nat.le_trans H22.out.size h)

def rowsB (rows : List RowV) : List UInt8 := sizeB rows.length ++ laid (fun r => rowB r.l) rows
def IsRows (w : World) (B : Nat → Prop) (v : Value) (rows : List RowV) : Prop :=
  Sl w B 1 v rows.length (rowVals rows) ∧ ∀ r ∈ rows, Sl w B 3 r.v r.l.length (rowCells r.l) ∧ (∀ a ∈ r.l, fit64 a.n) ∧ r.l.length ≤ 1000
end Go.Proofs.Ytedcljahcedpjaa
/- The writer: rows; a writer that there isn't. -/
namespace Go.Proofs.Ytedcljahcedpjaa
open Go.RowKit Go.Afx

set_option maxRecDepth 100000 in
set_option maxHeartbeats 1000000 in
theorem rows_wr (w : World) (t : TypeId) (b : Nat) (F : Nat → Prop) (rest : List Value) (l : List UInt8) (hb : Buf w t b F rest l) (v : Value) (x : List RowV) (hx : IsRows w (fun k => ¬ F k) v x) (hlen : l.length ≤ 19000000) (hxl : x.length ≤ 100) (hrl : ∀ r ∈ x, r.l.length ≤ 100) :
    Calls Try.prog 38 #[.pointer (some ⟨b, 0, none⟩), v] w fun e w' => e = .returned (.pointer (some ⟨b, 0, none⟩)) ∧ ∃ F', Buf w' t b F' rest (l ++ rowsB x) ∧ Only F w w' ∧ ∀ k, F' k → F k ∨ w.heap.size ≤ k := by
  obtain ⟨p, cap, rfl, hc1, hc2⟩ := hx.1.form
  have HS := size_one w t b F rest l hb x.length (by omega) (by omega)
  have HX := Lib.hid hx
  have HR := Lib.hid hrl
  clear hb hx hrl
  go_enter Try.func38, Try.ntmps38
  go_wp2_with (go_at_call 37; refine HS.out.mono ?_; clear HS; rintro e w2 ⟨rfl, F2, h21, h22, h23⟩; have H21 := Lib.hid h21; have H22 := Lib.hid h22; have H23 := Lib.hid h23; clear h21 h22 h23)
  go_loopw [14] (fun i wr => ∃ (k : Nat) (F3 : Nat → Prop), i = .int .i64 k ∧ k ≤ x.length ∧ Buf wr t b F3 rest (l ++ sizeB x.length ++ laid (fun r : RowV => rowB r.l) (x.take k)) ∧ Only F w wr ∧ ∀ q, F3 q → F q ∨ w.heap.size ≤ q) (fun i _ => x.length - (intOf i).toNat)
  case atStart => exact ⟨0, F2, rfl, Nat.zero_le _, by simpa [laid] using H21.out, H22.out, H23.out⟩
  case round =>
    obtain ⟨k, F3, rfl, hk, hb3, ho3, hf3⟩ := hrel
    have HB3 := Lib.hid hb3
    have HO3 := Lib.hid ho3
    have HF3 := Lib.hid hf3
    by_cases hka : k < x.length
    · obtain ⟨g, off, cap', hv, _, _, hgb, hglt, hc⟩ := HX.out.1.place (by omega)
      cases hv
      have hc0 : w.cell? ⟨g, off + k, none⟩ = some x[k].v := by rw [hc k (by simpa [rowVals] using hka)]; simp [rowVals, hka]
      have hck : wr.cell? ⟨g, off + k, none⟩ = some x[k].v := (ho3.cell (p := ⟨g, off + k, none⟩) hglt hgb).trans hc0
      have hrx := HX.out.2 x[k] (List.getElem_mem hka)
      have HN := Lib.hid (laid_next (fun r : RowV => rowB r.l) x k hka)
      have hll := laid_len (fun r : RowV => rowB r.l) 101009 (x.take k) (fun r hr => rowB_len r.l (HX.out.2 r (List.mem_of_mem_take hr)).2.1 (HR.out r (List.mem_of_mem_take hr)))
      have hlk : (x.take k).length ≤ 100 := by rw [List.length_take]; omega
      have hsz := be_len8 (max (x.length : Int) 0).toNat (by omega)
      clear hc hc0 hb3 ho3 hf3
      generalize x[k] = r at *
      obtain ⟨rv, rl⟩ := r
      obtain ⟨rp, rc, hrv, hrc1, hrc2⟩ := hrx.1.form
      have hrv2 : rv = .slice rp rl.length rc := hrv
      subst hrv2
      have hx3 : Sl wr (fun k => ¬ F3 k) 3 (.slice rp rl.length rc) rl.length (rowCells rl) :=
        Sl.mono hrx.1 HO3.out.size (fun k hk hlt => HO3.out.block k hlt hk) (fun k hk hlt h => by
          rcases HF3.out k h with h4 | h4
          · exact hk h4
          · omega)
      have hL := row_wr wr t b F3 rest _ HB3.out _ rl hx3 hrx.2.1 (by
        unfold sizeB
        rw [List.length_append, List.length_append]; omega) hrx.2.2
      rw [List.append_assoc, ← HN.out] at hL
      have HL := Lib.hid hL
      have hck2 : wr.cell? ⟨g, off + k, none⟩ = some (.slice rp rl.length rc) := hck
      clear hL hll hlk hrx hx3 hsz hck hrv
      go_wp2_with (go_at_call 51; refine HL.out.mono ?_; clear HL; rintro e w4 ⟨rfl, F4, h41, h42, h43⟩; have H41 := Lib.hid h41; have H42 := Lib.hid h42; have H43 := Lib.hid h43; clear h41 h42 h43)
      have ho4 : Only F w w4 := HO3.out.trans H42.out (fun q hq h => by
        rcases HF3.out q h with h2 | h2
        · exact h2
        · omega)
      refine ⟨⟨k + 1, F4, by congr 1, by omega, H41.out, ho4, fun q hq => ?_⟩, ?_⟩
      · rcases H43.out q hq with h | h
        · exact HF3.out q h
        · exact .inr (Nat.le_trans HO3.out.size h)
      · (simp [intOf]) <;> omega
    · obtain rfl : k = x.length := by omega
      clear hb3 ho3 hf3
      go_wp2
      go_ret
      refine ⟨rfl, F3, ?_, HO3.out, HF3.out⟩
      have := HB3.out
      rw [List.take_length, List.append_assoc] at this
      exact this
end Go.Proofs.Ytedcljahcedpjaa
