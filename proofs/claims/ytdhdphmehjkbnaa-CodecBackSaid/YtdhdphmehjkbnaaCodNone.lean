/- The laws CodecNone and CodecTakes: what the walks show. -/
import Derived.Test.YtdhdphmehjkbnaaSameW
namespace Go.Proofs.Ytdhdphmehjkbnaa
open Go.RowKit Go.Afx

structure AskV where
  kind : Int
  n : Int
  m : Int
def AskV.cells (a : AskV) : List Value := [.int .i64 a.kind, .int .i64 a.n, .int .i64 a.m]
def AskV.agg (a : AskV) : Value := .agg #[.int .i64 a.kind, .int .i64 a.n, .int .i64 a.m]
def AskV.fits (a : AskV) : Prop := fit64 a.n ∧ fit64 a.m

theorem ocAsk : Try.prog.cellsOf 80 = 3 := by kernel_rfl
section
variable {H : Type} {enc : TypeId × Value → H} {w : World}
theorem open_ask_at {fuel : Nat} {c : List Value} {y : DataW H × List MemPlace} (hl : c.length = 3) (hy : DataW.trod enc Try.prog w 0 (fun _ => true) true fuel 80 c = some y) : ∃ a : AskV, c = a.cells ∧ a.fits := by
  obtain ⟨n, hfs⟩ := open_fields Try.underlying80 hy
  obtain ⟨c0, c1, c2, rfl⟩ := list3 hl
  obtain ⟨y0, h0⟩ := hfs 0 _ rfl
  obtain ⟨y1, h1⟩ := hfs 1 _ rfl
  obtain ⟨y2, h2⟩ := hfs 2 _ rfl
  simp only [ocInt, List.drop_zero, List.drop_succ_cons, List.take_succ_cons, List.take_zero] at h0 h1 h2
  obtain ⟨k, e0, _, w0⟩ := DataW.trod_int Try.underlying3 h0
  obtain ⟨m, e1, _, w1⟩ := DataW.trod_int Try.underlying3 h1
  obtain ⟨s, e2, _, w2⟩ := DataW.trod_int Try.underlying3 h2
  simp only [List.cons.injEq, and_true] at e0 e1 e2
  subst e0 e1 e2
  exact ⟨⟨k, m, s⟩, rfl, wf_fit64 w1, wf_fit64 w2⟩
theorem open_ask {cs : Array Value} {d : DataW H} {ps : List MemPlace} (h : DataW.Trod enc Try.prog w 0 (fun _ => true) true 80 (.agg cs) d ps) (hs : cs.size = 3) :
    ∃ a : AskV, Value.agg cs = a.agg ∧ a.fits := by
  obtain ⟨fuel, hf⟩ := h
  obtain ⟨a, h1, h2⟩ := open_ask_at (c := cs.toList) (by simpa using hs) hf
  refine ⟨a, ?_, h2⟩
  have : cs = a.cells.toArray := by rw [← h1]
  rw [this]; rfl
theorem open_asks {v : Value} {d : DataW H} {ps : List MemPlace} (h : DataW.Trod enc Try.prog w 0 (fun _ => true) true 72 v d ps) (hv : v.cells.toList = [v]) :
    ∃ l : List AskV, Sl w (fun _ => True) 3 v l.length (l.map AskV.cells).flatten ∧ ∀ a ∈ l, a.fits := by
  obtain ⟨fuel, hf⟩ := h
  rw [hv] at hf
  obtain ⟨es, h1, h2⟩ := open_sl Try.underlying72 ocAsk (by omega) hf (fun c => ∃ a : AskV, c = a.cells ∧ a.fits) (fun c ⟨a, hc, _⟩ => by subst hc; intro u hu; simp [AskV.cells] at hu; rcases hu with rfl | rfl | rfl <;> rfl) (fun f c y hl hy => open_ask_at hl hy)
  obtain ⟨l, rfl, h4⟩ := choose_list es (fun c hcm => (h1 c hcm).2)
  rw [List.length_map] at h2
  exact ⟨l, h2, h4⟩
end

theorem SameOut.below {w0 w : World} {p : Option Addr} {RB : Nat → Prop} {q n0 : Nat} {cs : List Value} (h : SameOut w0 p RB q n0 cs w) {n : Nat} (hn : n ≤ w0.heap.size) (hm : ∀ k, Mine p k → n ≤ k) (hq : n ≤ q) : Below n w0 w := by
  obtain ⟨b, l, h⟩ := h
  exact h.on.below hn (fun k hk => by
    rcases hk with hk | rfl
    · exact hm k hk
    · exact hq)

set_option maxRecDepth 100000 in
theorem none_walk (v : Value) (a : AskV) (w : World) (ha : v = a.agg ∧ a.fits) :
    Calls Try.prog 7 #[v] w fun e w' => e = .returned (.bool true) ∧ Below w.heap.size w w' := by
  obtain ⟨rfl, hf1, hf2⟩ := ha
  obtain ⟨k, n, m⟩ := a
  simp only [AskV.agg] at *
  have hb1 : Below w.heap.size w (w.alloc (.cells #[.int .i64 k, .int .i64 n, .int .i64 m] 80)) := (Below.refl _ _).alloc (Nat.le_refl _) _
  have hsz1 : (w.alloc (.cells #[.int .i64 k, .int .i64 n, .int .i64 m] 80)).heap.size = w.heap.size + 1 := by simp
  have hb2 : Below w.heap.size w ((w.alloc (.cells #[.int .i64 k, .int .i64 n, .int .i64 m] 80)).alloc (.cells #[.string ⟨#[]⟩, .bool true] 77)) := hb1.alloc (by omega) _
  have hk := Blk.new (w.alloc (.cells #[.int .i64 k, .int .i64 n, .int .i64 m] 80)) 77 [.string ⟨#[]⟩, .bool true]
  have hsz2 : ((w.alloc (.cells #[.int .i64 k, .int .i64 n, .int .i64 m] 80)).alloc (.cells #[.string ⟨#[]⟩, .bool true] 77)).heap.size = w.heap.size + 2 := by simp
  rw [hsz1] at hk
  have hp : Prt ((w.alloc (.cells #[.int .i64 k, .int .i64 n, .int .i64 m] 80)).alloc (.cells #[.string ⟨#[]⟩, .bool true] 77)) (w.heap.size + 1) true [] := ⟨[], hk, fun h => by (cases h), fun _ => rfl, by simp⟩
  have HS := Lib.hid (same_any (RB := fun _ => False) _ none (w.heap.size + 1) true [] (.inl ⟨rfl, rfl, rfl⟩) hp (fun h => by cases h) (fun h => h) (fun _ h => h.elim) k n m hf1 hf2)
  have HB := Lib.hid hb2
  clear hb1 hb2 hk hp hsz1
  go_enter Try.func7, Try.ntmps7
  go_wp2_with (first
    | (go_at_call 45; refine HS.out.mono ?_; clear HS; rintro e w3 ⟨rfl, hs3⟩; have HS3 := Lib.hid hs3; clear hs3)
    | (go_at_call 27; refine (codec_awake _).mono ?_; rintro e w4 ⟨rfl, hb4⟩))
  go_ret
  have h3 := HS3.out.below (n := w.heap.size) HB.out.size (fun k hk => by cases hk) (by omega)
  have h5 := HB.out.trans h3
  exact ⟨rfl, h5.trans (hb4.mono h5.size)⟩

set_option maxRecDepth 100000 in
set_option maxHeartbeats 1000000 in
theorem takes_walk (s : ByteArray) (_ : s.size ≤ maxLen) (v : Value) (l : List AskV) (w : World) (hl : Sl w (fun _ => True) 3 v l.length (l.map AskV.cells).flatten ∧ ∀ a ∈ l, a.fits) :
    Calls Try.prog 6 #[.string s, v] w fun e w' => e = .returned (.bool true) ∧ Below w.heap.size w w' := by
  obtain ⟨h0, hf⟩ := hl
  obtain ⟨p, cap, rfl, hc1, hc2⟩ := h0.form
  have H0 := Lib.hid h0
  have HF := Lib.hid hf
  clear h0 hf
  by_cases h3 : 3000 < s.size
  · have d3 : decide ((3000 : Int) < s.size) = true := decide_eq_true (by omega)
    go_enter Try.func6, Try.ntmps6
    go_wp2_with (go_at_call 27; refine (codec_awake _).mono ?_; rintro e w4 ⟨rfl, hb4⟩)
    go_ret
    exact ⟨rfl, hb4⟩
  have d3 : decide ((3000 : Int) < s.size) = false := decide_eq_false (by omega)
  by_cases h6 : 60 < l.length
  · have d6 : decide ((60 : Int) < l.length) = true := decide_eq_true (by omega)
    go_enter Try.func6, Try.ntmps6
    go_wp2_with (go_at_call 27; refine (codec_awake _).mono ?_; rintro e w4 ⟨rfl, hb4⟩)
    go_ret
    exact ⟨rfl, hb4⟩
  have d6 : decide ((60 : Int) < l.length) = false := decide_eq_false (by omega)
  go_enter Try.func6, Try.ntmps6
  go_wp2_with (first
    | (go_at_call 27; refine (codec_awake _).mono ?_; rintro e w4 ⟨rfl, hb4⟩; have HB4 := Lib.hid hb4; clear hb4)
    | (go_at_call 44; refine (read_any w4 s (by omega)).mono ?_; rintro e w5 ⟨rfl, hr5, hb5⟩; have HR5 := Lib.hid hr5; have HB5 := Lib.hid hb5; clear hr5 hb5))
  have hql := HR5.out.lt _ rfl
  have hal : Below w5.heap.size w5 (w5.alloc (.cells #[.string s, .bool false] 77)) := (Below.refl _ _).alloc (Nat.le_refl _) _
  have h04 : w.heap.size ≤ w4.heap.size := HB4.out.size
  have hp6 : Prt (w5.alloc (.cells #[.string s, .bool false] 77)) w5.heap.size false s.data.toList := ⟨s.data.toList, Blk.new w5 _ _, fun _ => rfl, fun h => by (cases h), by rw [← size_list s _ rfl]; omega⟩
  have HP6 := Lib.hid hp6
  have HR6 := Lib.hid (HR5.out.below hal)
  have HB6 : Hid (Below w.heap.size w (w5.alloc (.cells #[.string s, .bool false] 77))) := (HB4.out.trans (HB5.out.mono h04)).trans (hal.mono (Nat.le_trans h04 HB5.out.size))
  have HN6 : Hid (w5.heap.size < (w5.alloc (.cells #[.string s, .bool false] 77)).heap.size) := hp6.lt
  generalize hw6 : w5.alloc (.cells #[.string s, .bool false] 77) = w6 at *
  clear hal hp6 hw6 d3 d6 h3 h6
  go_loopw [7] (fun i wr => ∃ (k : Nat) (b : Bool) (x : List UInt8), i = .int .i64 k ∧ k ≤ l.length ∧ Rdr wr (some ⟨w4.heap.size + 1, 0, none⟩) (fun k => k = w4.heap.size) b x ∧ Prt wr w5.heap.size b x ∧ Below w.heap.size w wr) (fun i _ => l.length - (intOf i).toNat)
  case atStart => exact ⟨0, false, _, rfl, Nat.zero_le _, HR6.out, HP6.out, HB6.out⟩
  case round =>
    obtain ⟨k, b, x, rfl, hk, hr, hp, hb⟩ := hrel
    have HR := Lib.hid hr
    have HP := Lib.hid hp
    have HB := Lib.hid hb
    by_cases hka : k < l.length
    · obtain ⟨g, off, cap1, hv, _, _, _, hg, hcl⟩ := (H0.out.below hb).place (by omega)
      cases hv
      have hlen : ∀ c ∈ l.map AskV.cells, c.length = 3 := by
        intro c hcm
        obtain ⟨a, _, rfl⟩ := List.mem_map.1 hcm
        rfl
      have hfl := flatten_length _ hlen
      rw [List.length_map] at hfl
      have get : ∀ r, r < 3 → wr.cell? ⟨g, off + (k * 3 + r), none⟩ = l[k].cells[r]? := fun r hr => by
        rw [hcl _ (by omega), flatten_get _ hlen k r hr, List.getElem?_map, List.getElem?_eq_getElem hka]
        rfl
      have e0 := get 0 (by omega)
      have e1 := get 1 (by omega)
      have e2 := get 2 (by omega)
      have hfk := HF.out l[k] (List.getElem_mem hka)
      clear get hfl hlen hcl hr hp hb
      generalize l[k] = a at *
      obtain ⟨ak, an, am⟩ := a
      have f0 : wr.cell? ⟨g, off + k * 3, none⟩ = some (.int .i64 ak) := e0
      have f1 : wr.cell? ⟨g, off + k * 3 + 1, none⟩ = some (.int .i64 an) := e1
      have f2 : wr.cell? ⟨g, off + k * 3 + 2, none⟩ = some (.int .i64 am) := e2
      have HS := Lib.hid (same_any wr _ w5.heap.size b x HR.out HP.out (fun h => by have := mine_eq h; omega) (by have := HB5.out.size; omega) (fun j hj => by have := HR.out.lt _ rfl; omega) ak an am hfk.1 hfk.2)
      clear e0 e1 e2 hfk
      go_wp2_with (go_at_call 45; refine HS.out.mono ?_; clear HS; rintro e w7 ⟨rfl, hs7⟩; have HS7 := Lib.hid hs7; clear hs7)
      have h7 := HS7.out.below (n := w.heap.size) HB.out.size (fun j hj => by have := mine_eq hj; omega) (by have := HB5.out.size; omega)
      obtain ⟨b7, x7, ht7⟩ := HS7.out
      go_roundw
      case rel => exact ⟨k + 1, b7, x7, by go_num, by omega, ht7.rd, ht7.pt, HB.out.trans h7⟩
      case measure => (simp [intOf]) <;> omega
    · obtain rfl : k = l.length := by omega
      clear hr hp hb
      go_wp2
      go_ret
      exact ⟨rfl, HB.out⟩
end Go.Proofs.Ytdhdphmehjkbnaa
