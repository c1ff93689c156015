/- What is done to a line: how it is read; what is great; plain. -/
import Derived.Test.YtdhdphmehjkbnaaLnW
namespace Go.Proofs.Ytdhdphmehjkbnaa
open Go.RowKit Go.Afx

structure ActV where
  kind : Int
  x : BatV
def ActV.cells (a : ActV) : List Value := [.int .i64 a.kind, .int .i64 a.x.id, a.x.v]
def actCells (l : List ActV) : List Value := (l.map ActV.cells).flatten
def ActAt (w : World) (B : Nat → Prop) (v : Value) (l : List ActV) : Prop := Sl w B 3 v l.length (actCells l) ∧ ∀ a ∈ l, RowsAt w B a.x.v a.x.rows
theorem ActAt.below {w w' : World} {B : Nat → Prop} {v : Value} {l : List ActV} (h : ActAt w B v l) (hb : Below w.heap.size w w') : ActAt w' B v l := ⟨h.1.below hb, fun x hx => (h.2 x hx).below hb⟩
theorem act_at {w : World} {B : Nat → Prop} {p : Option Addr} {n c k : Nat} {l : List ActV} (h : ActAt w B (.slice p n c) l) (hk : k < l.length) :
    ∃ g off, p = some ⟨g, off, none⟩ ∧ g < w.heap.size ∧ w.cell? ⟨g, off + k * 3, none⟩ = some (.int .i64 l[k].kind) ∧ w.cell? ⟨g, off + k * 3 + 1, none⟩ = some (.int .i64 l[k].x.id) ∧ w.cell? ⟨g, off + k * 3 + 2, none⟩ = some l[k].x.v := by
  obtain ⟨g, off, cap, hv, _, _, hgb, hglt, hc⟩ := h.1.place (by omega)
  injection hv with hp _ _
  have hlen : ∀ c ∈ l.map ActV.cells, c.length = 3 := by
    intro c hc
    obtain ⟨a, _, rfl⟩ := List.mem_map.1 hc
    rfl
  have get : ∀ r, r < 3 → w.cell? ⟨g, off + (k * 3 + r), none⟩ = (l[k].cells)[r]? := fun r hr => by
    rw [hc _ (by unfold actCells; rw [flatten_length _ hlen, List.length_map]; omega)]
    unfold actCells
    rw [flatten_get _ hlen k r hr, List.getElem?_map, List.getElem?_eq_getElem hk]
    rfl
  exact ⟨g, off, hp, hglt, get 0 (by omega), get 1 (by omega), get 2 (by omega)⟩

section
variable {H : Type} {enc : TypeId × Value → H} {w : World}
theorem ocAct : Try.prog.cellsOf 90 = 3 := by kernel_rfl
theorem open_acts {v : Value} {d : DataW H} {ps : List MemPlace} (h : DataW.Trod enc Try.prog w 0 (fun _ => true) true 88 v d ps) (hv : v.cells.toList = [v]) :
    ∃ l : List ActV, ActAt w (fun _ => True) v l ∧ ∀ a ∈ l, a.x.read ∧ fit64 a.kind := by
  obtain ⟨fuel, hf⟩ := h
  rw [hv] at hf
  obtain ⟨es, h1, h2⟩ := open_sl Try.underlying88 ocAct (by omega) hf (fun c => ∃ a : ActV, c = a.cells ∧ RowsAt w (fun _ => True) a.x.v a.x.rows ∧ a.x.read ∧ fit64 a.kind) (fun c ⟨a, hc, hr, _⟩ => by subst hc; exact ((Ones.nil.cons (sl_one hr.1)).cons rfl).cons rfl) (fun f c y hl hy => by
    obtain ⟨n, hfs⟩ := open_fields Try.underlying90 hy
    obtain ⟨c0, c1, c2, rfl⟩ := list3 hl
    obtain ⟨y0, h0⟩ := hfs 0 _ rfl
    obtain ⟨y1, h1⟩ := hfs 1 _ rfl
    simp only [ocInt, ocBat, List.drop_zero, List.drop_succ_cons, List.take_succ_cons, List.take_zero] at h0 h1
    obtain ⟨k, e0, _, w0⟩ := DataW.trod_int Try.underlying3 h0
    obtain ⟨b, e1, h3, h4⟩ := open_bat_at rfl h1
    simp only [List.cons.injEq, and_true, BatV.cells] at e0 e1
    obtain ⟨rfl, rfl⟩ := e1
    subst e0
    exact ⟨⟨k, b⟩, rfl, h3, h4, wf_fit64 w0⟩)
  obtain ⟨l, rfl, h4⟩ := choose_list es (fun c hcm => (h1 c hcm).2)
  rw [List.length_map] at h2
  exact ⟨l, ⟨h2, fun b hb => (h4 b hb).1⟩, fun b hb => (h4 b hb).2⟩
theorem open_ids {v : Value} {d : DataW H} {ps : List MemPlace} (h : DataW.Trod enc Try.prog w 0 (fun _ => true) true 45 v d ps) (hv : v.cells.toList = [v]) :
    ∃ l : List Int, Sl w (fun _ => True) 1 v l.length (ints l) := by
  obtain ⟨fuel, hf⟩ := h
  rw [hv] at hf
  obtain ⟨l, h1, _⟩ := open_ints_sl Try.underlying45 Try.underlying3 ocInt hf
  exact ⟨l, h1⟩
end

theorem greatL_lens2 {nm : ByteArray} {cl : List ColV} {l : List BatV} (h : greatL nm cl l = false) : cl.length ≤ 12 ∧ l.length ≤ 40 ∧ ∀ b ∈ l, b.rows.length ≤ 40 ∧ ∀ r ∈ b.rows, r.l.length ≤ 30 := by
  obtain ⟨h1, h2, h3⟩ := greatL_no h
  refine ⟨(greatS_no h1).1, h2, fun b hb => ⟨(h3 b hb).1, fun r hr => ?_⟩⟩
  have := (h3 b hb).2 r hr
  unfold greatB at this
  rw [Bool.or_eq_false_iff, decide_eq_false_iff_not] at this
  omega
theorem rowsN_le {l : List BatV} (h : ∀ x ∈ l, x.rows.length ≤ 40) : rowsN l ≤ 40 * l.length := by
  induction l with
  | nil => simp [rowsN]
  | cons x t ih =>
    rw [rowsN_cons, List.length_cons]
    have := ih (fun y hy => h y (List.mem_cons_of_mem _ hy))
    have := h x (List.mem_cons_self ..)
    omega
theorem key_bounds {a b : List BatV} (h : a.map BatV.key = b.map BatV.key) (hb : ∀ x ∈ b, x.rows.length ≤ 40 ∧ ∀ r ∈ x.rows, r.l.length ≤ 30) : ∀ x ∈ a, x.rows.length ≤ 1000000 ∧ ∀ r ∈ x.rows, r.l.length ≤ 1000000 := by
  intro x hx
  have h1 : x.key ∈ b.map BatV.key := by rw [← h]; exact List.mem_map_of_mem hx
  obtain ⟨y, hy, he⟩ := List.mem_map.1 h1
  obtain ⟨hy1, hy2⟩ := hb y hy
  have he2 : y.rows.map RowV.l = x.rows.map RowV.l := congrArg Prod.snd he
  refine ⟨?_, fun r hr => ?_⟩
  · have := congrArg List.length he2
    rw [List.length_map, List.length_map] at this
    omega
  · have h3 : r.l ∈ y.rows.map RowV.l := by rw [he2]; exact List.mem_map_of_mem hr
    obtain ⟨r2, hr2, he3⟩ := List.mem_map.1 h3
    have := hy2 r2 hr2
    rw [he3] at this
    omega
theorem lateB_key (id : Int) {a b : List BatV} (h : a.map BatV.key = b.map BatV.key) : lateB id a = lateB id b := by
  have e : ∀ l : List BatV, lateB id l = (match (l.map BatV.key).getLast? with | none => false | some k => decide (id ≤ k.1)) := fun l => by
    unfold lateB
    rw [List.getLast?_map]
    cases l.getLast? <;> rfl
  rw [e, e, h]
theorem putE_key (f : Bool) (id : Int) {a b : List BatV} (h : a.map BatV.key = b.map BatV.key) (room : Int) (n : Nat) : putE f id a room n = putE f id b room n := by
  unfold putE
  rw [lateB_key id h, rowsN_key h]

theorem IsLine.mono {F F' : Nat → Prop} {w : World} {b : Nat} {lv : Value} {nm : ByteArray} {cl : List ColV} {room : Int} {l : List BatV} (h : IsLine F w b lv nm cl room l) (hF : ∀ k, k < w.heap.size → F k → F' k) : IsLine F' w b lv nm cl room l := by
  obtain ⟨cv, h1, h2, h3, h4, h5⟩ := h
  exact ⟨cv, h1, h2.mono (Nat.le_refl _) (fun _ _ _ => rfl) (fun k hk hl => ⟨hk.1, hk.2.1, hF k hl hk.2.2⟩), h3, h4, fun x hx => ⟨(h5 x hx).1.mono (Nat.le_refl _) (fun _ _ _ => rfl) (fun k hk hl => ⟨hk.1, hk.2.1, hF k hl hk.2.2⟩), fun r hr => ((h5 x hx).2 r hr).mono (Nat.le_refl _) (fun _ _ _ => rfl) (fun k hk hl => ⟨hk.1, hk.2.1, hF k hl hk.2.2⟩)⟩⟩
theorem IsLine.only {F S : Nat → Prop} {w w' : World} {b : Nat} {lv : Value} {nm : ByteArray} {cl : List ColV} {room : Int} {l : List BatV} (h : IsLine F w b lv nm cl room l) (ho : Only S w w') (hb : ¬ S b) (hl : ∀ q, lv.ownBlock = some q → ¬ S q) (hS : ∀ q, F q → ¬ S q) : IsLine F w' b lv nm cl room l := by
  obtain ⟨cv, h1, h2, h3, h4, h5⟩ := h
  exact ⟨cv, h1.only ho hb, h2.only ho (fun k hk => hS k hk.2.2), h3.only ho hl, h4, fun x hx => (h5 x hx).only ho (fun k hk => hS k hk.2.2)⟩
theorem IsLine.ownlt {F : Nat → Prop} {w : World} {b : Nat} {lv : Value} {nm : ByteArray} {cl : List ColV} {room : Int} {l : List BatV} (h : IsLine F w b lv nm cl room l) : ∀ q, lv.ownBlock = some q → q < w.heap.size := by
  obtain ⟨cv, h1, h2, h3, h4, h5⟩ := h
  exact h3.lt

/-- The law's loop: the line, and what waits as the law has it. -/
def MainSt (w1 : World) (b : Nat) (nm : ByteArray) (cl : List ColV) (room : Int) (l : List ActV) (k : Nat) (nv : Value) (wr : World) : Prop :=
  ∃ lv ll nl, IsLine (fun q => nv.ownBlock ≠ some q) wr b lv nm cl room ll ∧ Own wr 38 2 nv nl.length (batCells nl) ∧ ll.map BatV.key = nl.map BatV.key ∧ (∀ x ∈ nl, ∃ a ∈ l, a.x = x) ∧ nl.length ≤ k ∧
    (∀ q, lv.ownBlock = some q → w1.heap.size ≤ q) ∧ (∀ q, nv.ownBlock = some q → w1.heap.size ≤ q ∧ q ≠ b ∧ lv.ownBlock ≠ some q) ∧ Below w1.heap.size w1 wr
theorem MainSt.below {w1 wr w' : World} {b : Nat} {nm : ByteArray} {cl : List ColV} {room : Int} {l : List ActV} {k k' : Nat} {nv : Value} (h : MainSt w1 b nm cl room l k nv wr) (hb : Below wr.heap.size wr w') (hk : k ≤ k') : MainSt w1 b nm cl room l k' nv w' := by
  obtain ⟨lv, ll, nl, h1, h2, h3, h4, h5, h6, h7, h8⟩ := h
  exact ⟨lv, ll, nl, h1.below hb, h2.below hb, h3, h4, Nat.le_trans h5 hk, h6, h7, h8.trans (hb.mono h8.size)⟩
theorem main_waits {w1 wr : World} {b : Nat} {nm : ByteArray} {cl : List ColV} {room : Int} {l : List ActV} {k : Nat} {nv iv : Value} {p : Option Addr} {c : Nat} {ids : List Int} (h : MainSt w1 b nm cl room l k nv wr) (HL : ActAt w1 (fun _ => True) (.slice p l.length c) l)
    (HLENS : ∀ a ∈ l, a.x.rows.length ≤ 40 ∧ ∀ r ∈ a.x.rows, r.l.length ≤ 30) (hk : k ≤ 40) (HI : Sl w1 (fun _ => True) 1 iv ids.length (ints ids)) :
    Calls Try.prog 57 #[.pointer (some ⟨b, 0, none⟩), nv, iv] wr fun e w' => e = .returned (.bool true) ∧ MainSt w1 b nm cl room l k nv w' := by
  have hm := h
  obtain ⟨lv, ll, nl, h1, h2, h3, h4, h5, h6, h7, h8⟩ := h
  have hnb : ∀ x ∈ nl, x.rows.length ≤ 40 ∧ ∀ r ∈ x.rows, r.l.length ≤ 30 := fun x hx => by
    obtain ⟨a, ha, rfl⟩ := h4 x hx
    exact HLENS a ha
  have hrn : rowsN nl ≤ 40 * nl.length := rowsN_le (fun x hx => (hnb x hx).1)
  refine (lwaits wr _ (fun _ => True) b lv nm cl room ll h1 nv nl ⟨h2.sl (fun _ _ => trivial), fun x hx => ?_⟩ h3 iv ids (HI.below h8) (by omega) (key_bounds h3 hnb) (by omega)).mono ?_
  · obtain ⟨a, ha, rfl⟩ := h4 x hx
    exact (HL.below h8).2 a ha
  · rintro e w' ⟨rfl, hb⟩
    exact ⟨rfl, hm.below hb (Nat.le_refl _)⟩
theorem main_put {w1 wr w9 wA w10 : World} {b : Nat} {nm : ByteArray} {cl : List ColV} {room : Int} {l : List ActV} {k : Nat} {lv nv lv' v1 : Value} {ll nl : List BatV} {x y : BatV}
    (hown : Own wr 38 2 nv nl.length (batCells nl)) (hkey : ll.map BatV.key = nl.map BatV.key) (hmem : ∀ x ∈ nl, ∃ a ∈ l, a.x = x) (hnk : nl.length ≤ k)
    (hlv : ∀ q, lv.ownBlock = some q → w1.heap.size ≤ q) (hnv : ∀ q, nv.ownBlock = some q → w1.heap.size ≤ q ∧ q ≠ b ∧ lv.ownBlock ≠ some q) (hbr : Below w1.heap.size w1 wr) (hbw : w1.heap.size ≤ b) (hblt : b < wr.heap.size)
    (hi9 : IsLine (fun q => nv.ownBlock ≠ some q) w9 b lv' nm cl room (ll ++ [y])) (hy : y.key = x.key) (hx : ∃ a ∈ l, a.x = x) (hlv' : ∀ q, lv'.ownBlock = some q → lv.ownBlock = some q ∨ wr.heap.size ≤ q) (ho9 : Only (fun q => q = b ∨ lv.ownBlock = some q) wr w9)
    (hal : Below w9.heap.size w9 wA) (hsA : wA.heap.size = w9.heap.size + 1) (g1 : Own w10 38 2 v1 (nl.length + 1) (batCells nl ++ batCells [x])) (g2 : Only (fun q => nv.ownBlock = some q) wA w10) (g3 : v1.ownBlock = nv.ownBlock ∨ v1.ownBlock = some wA.heap.size) :
    MainSt w1 b nm cl room l (k + 1) v1 w10 := by
  have hnl := hown.lt
  have hln : ∀ q, lv'.ownBlock = some q → nv.ownBlock ≠ some q := fun q h1 h2 => by
    rcases hlv' q h1 with h3 | h3
    · exact (hnv q h2).2.2 h3
    · have := hnl q h2; omega
  have hl9 := hi9.ownlt
  have hs9 := ho9.size
  refine ⟨lv', ll ++ [y], nl ++ [x], ?_, ?_, ?_, ?_, ?_, ?_, ?_, ?_⟩
  · have h1 : IsLine (fun q => nv.ownBlock ≠ some q ∧ q < wA.heap.size) wA b lv' nm cl room (ll ++ [y]) := (hi9.below hal).mono (fun k hk h => ⟨h, hk⟩)
    have h2 := h1.only g2 (fun h => (hnv b h).2.1 rfl) (fun q hq h => hln q hq h) (fun q hq h => hq.1 h)
    refine h2.mono (fun q _ hq h => ?_)
    rcases g3 with h3 | h3
    · rw [h3] at h; exact hq.1 h
    · rw [h3] at h
      have : wA.heap.size = q := by simpa using h
      omega
  · rw [List.length_append, batCells_append]; exact g1
  · rw [List.map_append, List.map_append, hkey]
    simp only [List.map_cons, List.map_nil, hy]
  · intro z hz
    rcases List.mem_append.1 hz with hz | hz
    · exact hmem z hz
    · rw [List.mem_singleton.1 hz]; exact hx
  · rw [List.length_append]; simp only [List.length_cons, List.length_nil]; omega
  · intro q hq
    rcases hlv' q hq with h | h
    · exact hlv q h
    · have := hbr.size; omega
  · intro q hq
    rcases g3 with h3 | h3
    · rw [h3] at hq
      exact ⟨(hnv q hq).1, (hnv q hq).2.1, fun h => hln q h hq⟩
    · rw [h3] at hq
      have h4 : wA.heap.size = q := by simpa using hq
      refine ⟨by have := hbr.size; omega, by omega, fun h => ?_⟩
      have := hl9 q h; omega
  · have h1 : Below w1.heap.size wr w9 := ho9.below hbr.size (fun q hq => by
      rcases hq with h | h
      · omega
      · exact hlv q h)
    have h2 := hbr.trans h1
    have h3 := h2.trans (hal.mono h2.size)
    exact h3.trans (g2.below h3.size (fun q hq => (hnv q hq).1))
theorem main_take {w1 wr w6 : World} {b : Nat} {nm : ByteArray} {cl : List ColV} {room : Int} {l : List ActV} {k : Nat} {lv nv lv' nv' : Value} {ll nl nt t : List BatV} {x y : BatV}
    (hown : Own w6 38 2 nv' nt.length (batCells nt)) (hob : nv'.ownBlock = nv.ownBlock) (hkey : ll.map BatV.key = nl.map BatV.key) (hll : ll = y :: t) (hnl : nl = x :: nt) (hmem : ∀ x ∈ nl, ∃ a ∈ l, a.x = x) (hnk : nl.length ≤ k)
    (hlv : ∀ q, lv.ownBlock = some q → w1.heap.size ≤ q) (hnv : ∀ q, nv.ownBlock = some q → w1.heap.size ≤ q ∧ q ≠ b ∧ lv.ownBlock ≠ some q) (hbr : Below w1.heap.size w1 wr) (hbw : w1.heap.size ≤ b)
    (hi : IsLine (fun q => nv.ownBlock ≠ some q) w6 b lv' nm cl room t) (hlv' : lv'.ownBlock = lv.ownBlock) (ho : Only (fun q => q = b) wr w6) : MainSt w1 b nm cl room l (k + 1) nv' w6 := by
  subst hll hnl
  simp only [List.map_cons, List.cons.injEq] at hkey
  refine ⟨lv', t, nt, by rw [hob]; exact hi, hown, hkey.2, fun z hz => hmem z (List.mem_cons_of_mem _ hz), by simp only [List.length_cons] at hnk; omega, by rw [hlv']; exact hlv, by rw [hob, hlv']; exact hnv, hbr.trans (ho.below hbr.size (fun q hq => by omega))⟩
end Go.Proofs.Ytdhdphmehjkbnaa
