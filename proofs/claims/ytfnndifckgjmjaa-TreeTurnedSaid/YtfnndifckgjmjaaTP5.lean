/- Contracts of the functions that the statement reaches, one behind the other. No condition beyond each theorem's own. -/
import Derived.Test.YtfnndifckgjmjaaOpen
import Derived.Test.YtfnndifckgjmjaaRows
import Derived.Test.YtfnndifckgjmjaaPlan
import Derived.Lib.Hide
import Derived.Lib.SliceRun
import Derived.Laws.Cover1
import Derived.Test.YtfnndifckgjmjaaTP4
set_option linter.unusedSimpArgs false
set_option linter.unusedVariables false
/- Trees told: Count; of no tree nothing is told. -/
namespace Go.Proofs.Ytfnndifckgjmjaa
open Go.RowKit Go.Afx
set_option maxRecDepth 100000 in
set_option maxHeartbeats 1000000 in
theorem count_i (w : World) (tb : Nat) (p : P) (d n : Nat) (fr tu : Key) (hs : Sep w (trsi tb p n)) (hg : Afx.Good d p.t) (hn : n = p.t.flat.length) (hl : n ≤ 99999) :
    Calls Try.prog 12 #[ptrV tb, .string (kb fr), .string (kb tu)] w fun e w' => e = .returned (.int .i64 ((keysFrom fr tu p.t.flat).length : Int)) ∧ Below w.heap.size w w' := by
  have kt0 : Blk w tb 68 [ptrV p.blk, .int .i64 (n : Int)] := hs.all (rTi tb p n) (by simp)
  have HLEN := Lib.hid (len_i w tb p n kt0)
  have hk := keys_i w tb p d n fr tu (n : Int) hs hg hn hl (by omega) (by omega)
  have htk : (keysFrom fr tu p.t.flat).take (n : Int).toNat = keysFrom fr tu p.t.flat := by
    apply List.take_of_length_le
    rw [Int.toNat_natCast, hn]
    unfold keysFrom
    rw [List.length_map]
    exact List.length_filter_le _ _
  rw [htk] at hk
  have HK := Lib.hid hk
  unfold ptrV at HLEN HK ⊢
  clear kt0 hs hg hn hl hk htk
  go_enter Try.func12, Try.ntmps12
  go_wp2_with fail
  refine HLEN.out.mono ?_
  rintro e wq ⟨rfl, hq⟩
  subst hq
  go_wp2_with fail
  refine HK.out.mono ?_
  rintro e w2 ⟨v, rfl, ho, _, hb⟩
  obtain ⟨pv, cv, rfl, _, _⟩ := (ho.sl (B := fun _ => True) (fun _ _ => trivial)).form
  clear ho
  go_wp2
  go_ret
  exact ⟨rfl, hb⟩

set_option maxRecDepth 100000 in
set_option maxHeartbeats 1000000 in
theorem nil_Len_i (w : World)  : Calls Try.prog 18 #[.pointer none] w fun e w' => e = .returned (.int .i64 0) ∧ Below w.heap.size w w' := by
  go_enter Try.func18, Try.ntmps18
  go_wp2
  exact bodyPost_ret (v := .int .i64 0) (by simp [results, Try.results18, go_sem]) rfl ⟨rfl, Below.refl _ _⟩


set_option maxRecDepth 100000 in
set_option maxHeartbeats 1000000 in
theorem nil_Put_i (w : World) (k : Key) (z : Int) : Calls Try.prog 15 #[.pointer none, .string (kb k), (.int .i64 z)] w fun e w' => e = .returned (.tuple #[(.int .i64 0), .bool false]) ∧ Below w.heap.size w w' := by
  go_enter Try.func15, Try.ntmps15
  go_wp2
  exact bodyPost_ret (v := .tuple #[(.int .i64 0), .bool false]) (by simp [results, Try.results15, go_sem]) rfl ⟨rfl, Below.refl _ _⟩


set_option maxRecDepth 100000 in
set_option maxHeartbeats 1000000 in
theorem nil_Delete_i (w : World) (k : Key) : Calls Try.prog 20 #[.pointer none, .string (kb k)] w fun e w' => e = .returned (.tuple #[(.int .i64 0), .bool false]) ∧ Below w.heap.size w w' := by
  go_enter Try.func20, Try.ntmps20
  go_wp2
  exact bodyPost_ret (v := .tuple #[(.int .i64 0), .bool false]) (by simp [results, Try.results20, go_sem]) rfl ⟨rfl, Below.refl _ _⟩


set_option maxRecDepth 100000 in
set_option maxHeartbeats 1000000 in
theorem nil_Get_i (w : World) (k : Key) : Calls Try.prog 39 #[.pointer none, .string (kb k)] w fun e w' => e = .returned (.tuple #[(.int .i64 0), .bool false]) ∧ Below w.heap.size w w' := by
  go_enter Try.func39, Try.ntmps39
  go_wp2
  exact bodyPost_ret (v := .tuple #[(.int .i64 0), .bool false]) (by simp [results, Try.results39, go_sem]) rfl ⟨rfl, Below.refl _ _⟩


set_option maxRecDepth 100000 in
set_option maxHeartbeats 1000000 in
theorem nil_Next_i (w : World) (k : Key) (wi : Bool) : Calls Try.prog 26 #[.pointer none, .string (kb k), .bool wi] w fun e w' => e = .returned ((.tuple #[.string ⟨#[]⟩, (.int .i64 0), .bool false])) ∧ Below w.heap.size w w' := by
  go_enter Try.func26, Try.ntmps26
  go_wp2_with fail
  refine (told_i w (.pointer none) none rfl).mono ?_
  rintro e w2 ⟨rfl, hb⟩
  unfold toldV
  simp only
  go_wp2
  exact bodyPost_ret (v := (.tuple #[.string ⟨#[]⟩, (.int .i64 0), .bool false])) (by simp [results, Try.results26, go_sem]) rfl ⟨rfl, hb⟩


set_option maxRecDepth 100000 in
set_option maxHeartbeats 1000000 in
theorem nil_Ahead_i (w : World) (k : Key) (wi : Bool) : Calls Try.prog 40 #[.pointer none, .string (kb k), .bool wi] w fun e w' => e = .returned ((.tuple #[.string ⟨#[]⟩, (.int .i64 0), .bool false])) ∧ Below w.heap.size w w' := by
  go_enter Try.func40, Try.ntmps40
  go_wp2_with fail
  refine (told_i w (.pointer none) none rfl).mono ?_
  rintro e w2 ⟨rfl, hb⟩
  unfold toldV
  simp only
  go_wp2
  exact bodyPost_ret (v := (.tuple #[.string ⟨#[]⟩, (.int .i64 0), .bool false])) (by simp [results, Try.results40, go_sem]) rfl ⟨rfl, hb⟩


set_option maxRecDepth 100000 in
set_option maxHeartbeats 1000000 in
theorem nil_Last_i (w : World)  : Calls Try.prog 41 #[.pointer none] w fun e w' => e = .returned ((.tuple #[.string ⟨#[]⟩, (.int .i64 0), .bool false])) ∧ Below w.heap.size w w' := by
  go_enter Try.func41, Try.ntmps41
  go_wp2_with fail
  refine (told_i w (.pointer none) none rfl).mono ?_
  rintro e w2 ⟨rfl, hb⟩
  unfold toldV
  simp only
  go_wp2
  exact bodyPost_ret (v := (.tuple #[.string ⟨#[]⟩, (.int .i64 0), .bool false])) (by simp [results, Try.results41, go_sem]) rfl ⟨rfl, hb⟩


set_option maxRecDepth 100000 in
set_option maxHeartbeats 1000000 in
theorem nil_Keys_i (w : World) (k tu : Key) (most : Int) : Calls Try.prog 11 #[.pointer none, .string (kb k), .string (kb tu), .int .i64 most] w fun e w' => e = .returned (.slice none 0 0) ∧ Below w.heap.size w w' := by
  go_enter Try.func11, Try.ntmps11
  have HNX := Lib.hid (nil_Next_i w k true)
  go_wp2_with fail
  refine HNX.out.mono ?_
  rintro e w2 ⟨rfl, hb⟩
  go_wp2
  go_loop [9, 10, 12] (fun l k ok => l = .slice none 0 0 ∧ k = .string ⟨#[]⟩ ∧ ok = .bool false) (fun _ _ _ => 0)
  case atStart => exact ⟨rfl, rfl, rfl⟩
  case round =>
    obtain ⟨rfl, rfl, rfl⟩ := hrel
    go_wp2
    go_ret
    exact ⟨rfl, hb⟩

set_option maxRecDepth 100000 in
set_option maxHeartbeats 1000000 in
theorem nil_Count_i (w : World) (k tu : Key) : Calls Try.prog 12 #[.pointer none, .string (kb k), .string (kb tu)] w fun e w' => e = .returned (.int .i64 0) ∧ Below w.heap.size w w' := by
  go_enter Try.func12, Try.ntmps12
  have HLEN := Lib.hid (nil_Len_i w)
  have HKS := Lib.hid (fun w => nil_Keys_i w k tu 0)
  go_wp2_with fail
  refine HLEN.out.mono ?_
  rintro e w2 ⟨rfl, hb⟩
  go_wp2_with fail
  refine (HKS.out w2).mono ?_
  rintro e w3 ⟨rfl, hb3⟩
  go_wp2
  go_ret
  exact ⟨rfl, hb.trans (hb3.mono hb.size)⟩

set_option maxRecDepth 100000 in
set_option maxHeartbeats 1000000 in
theorem nil_Depth_i (w : World)  : Calls Try.prog 22 #[.pointer none] w fun e w' => e = .returned (.int .i64 0) ∧ Below w.heap.size w w' := by
  go_enter Try.func22, Try.ntmps22
  have HLEN := Lib.hid (nil_Len_i w)
  go_wp2_with fail
  refine HLEN.out.mono ?_
  rintro e w2 ⟨rfl, hb⟩
  go_wp2
  go_ret
  exact ⟨rfl, hb⟩

set_option maxRecDepth 100000 in
set_option maxHeartbeats 1000000 in
theorem nil_Pages_i (w : World)  : Calls Try.prog 25 #[.pointer none] w fun e w' => e = .returned (.slice none 0 0) ∧ Below w.heap.size w w' := by
  go_enter Try.func25, Try.ntmps25
  have HLEN := Lib.hid (nil_Len_i w)
  go_wp2_with fail
  refine HLEN.out.mono ?_
  rintro e w2 ⟨rfl, hb⟩
  go_wp2
  go_ret
  exact ⟨rfl, hb⟩
set_option maxRecDepth 100000 in
set_option maxHeartbeats 1000000 in
theorem depth0_i (w : World) (tb : Nat) (p : P) (h : Blk w tb 68 [ptrV p.blk, .int .i64 ((0 : Nat) : Int)]) : Calls Try.prog 22 #[ptrV tb] w fun e w' => e = .returned (.int .i64 0) ∧ Below w.heap.size w w' := by
  have HLEN := Lib.hid (len_i w tb p 0 h)
  unfold ptrV at HLEN ⊢
  clear h
  go_enter Try.func22, Try.ntmps22
  go_wp2_with fail
  refine HLEN.out.mono ?_
  rintro e wq ⟨rfl, hq⟩
  subst hq
  go_wp2
  go_ret
  exact ⟨rfl, Below.refl _ _⟩
set_option maxRecDepth 100000 in
set_option maxHeartbeats 1000000 in
theorem pages0_i (w : World) (tb : Nat) (p : P) (h : Blk w tb 68 [ptrV p.blk, .int .i64 ((0 : Nat) : Int)]) : Calls Try.prog 25 #[ptrV tb] w fun e w' => e = .returned (.slice none 0 0) ∧ Below w.heap.size w w' := by
  have HLEN := Lib.hid (len_i w tb p 0 h)
  unfold ptrV at HLEN ⊢
  clear h
  go_enter Try.func25, Try.ntmps25
  go_wp2_with fail
  refine HLEN.out.mono ?_
  rintro e wq ⟨rfl, hq⟩
  subst hq
  go_wp2
  go_ret
  exact ⟨rfl, Below.refl _ _⟩
end Go.Proofs.Ytfnndifckgjmjaa
/- The tree's laws: their own functions: looks. -/
namespace Go.Afx
open Go Go.RowKit
/-- The entry at a place, or none. -/
def atI (l : List En) (i : Int) : Option En := if i < 0 then none else l[i.toNat]?
theorem atI_nat (l : List En) (n : Nat) : atI l (n : Int) = l[n]? := by unfold atI; rw [if_neg (by omega)]; simp
theorem last_at {a b : List En} {n : Nat} (h : a.length = n) : a.getLast? = atI (a ++ b) ((n : Int) - 1) := by
  subst h
  cases hz : a.length with
  | zero =>
    obtain rfl : a = [] := List.eq_nil_of_length_eq_zero hz
    rfl
  | succ m =>
    have e1 : ((m + 1 : Nat) : Int) - 1 = (m : Int) := by omega
    rw [e1, atI_nat, List.getLast?_eq_getElem?, hz, List.getElem?_append_left (by omega)]
    rfl
theorem leaf_of {k : Key} {l : List En} (h : Rise l) : ∃ a b, Leaf k l a b := leaf_page (by rw [flat_leaf]; exact h)
theorem look_at {k : Key} {l : List En} (h : Rise l) : look k l = if has k l then (l[pos k l]?).map En.val else none := by
  obtain ⟨a, b, hl⟩ := leaf_of (k := k) h
  cases hh : has k l
  · rw [hl.look.2 hh]; rfl
  · obtain ⟨e, he, _, h2⟩ := hl.look.1 hh
    rw [h2, he]; rfl
theorem abv_at {k : Key} {l : List En} (h : Rise l) : abv k true l = l[pos k l]? ∧ abv k false l = l[pos k l + (if has k l then 1 else 0)]? := by
  obtain ⟨a, b, hl⟩ := leaf_of (k := k) h
  cases hh : has k l
  · exact ⟨hl.abv.2.2 hh, hl.abv.2.2 hh⟩
  · obtain ⟨e, he, h2⟩ := (hl.abv (wi := true)).1 hh rfl
    exact ⟨by rw [h2, he], (hl.abv (wi := false)).2.1 hh rfl⟩
theorem blw_at {k : Key} {l : List En} (h : Rise l) : blw k false l = atI l ((pos k l : Nat) - 1) ∧ blw k true l = if has k l then l[pos k l]? else atI l ((pos k l : Nat) - 1) := by
  obtain ⟨a, b, hl⟩ := leaf_of (k := k) h
  have h1 : a.getLast? = atI l ((pos k l : Nat) - 1) := by
    have := last_at (b := b) hl.al
    rw [← hl.es_] at this
    exact this
  refine ⟨by rw [hl.blw.2 fun _ => rfl, h1], ?_⟩
  cases hh : has k l
  · rw [(hl.blw (wi := true)).2 (fun h2 => by rw [hh] at h2; cases h2), h1]; rfl
  · obtain ⟨e, he, h2⟩ := (hl.blw (wi := true)).1 hh rfl
    rw [h2, he]; rfl
theorem getLast_at (l : List En) : l.getLast? = atI l ((l.length : Int) - 1) := by
  have := last_at (a := l) (b := []) rfl
  rw [List.append_nil] at this
  exact this
/-- All values are numbers. -/
def IntsE (l : List En) : Prop := ∀ e ∈ l, ∃ z : Int, e.val = .int .i64 z
end Go.Afx
namespace Go.Proofs.Ytfnndifckgjmjaa
open Go.RowKit Go.Afx

theorem told_at (w : World) (B : Nat → Prop) (v : Value) (l : List En) (i : Int) (o : Option En) (h : Sl w B 2 v l.length (enC l)) (hn : l.length ≤ 1000000) (hi : IntsE l) (ho : o = atI l i) :
    ∃ (kk : ByteArray) (z : Int) (b : Bool), toldV (.int .i64 0) o = .tuple #[.string kk, .int .i64 z, .bool b] ∧ ∀ wr, Below w.heap.size w wr → Calls Try.prog 42 #[v, .int .i64 i, .string kk, .int .i64 z, .bool b] wr fun e w' => e = .returned (.bool true) ∧ Below w.heap.size w w' := by
  subst ho
  unfold atI
  by_cases hi0 : i < 0
  · rw [if_pos hi0]
    exact ⟨kb [], 0, false, rfl, fun wr hb => (told_any wr B v l i [] 0 false (h.below hb) hn (.inr ⟨.inl hi0, rfl, rfl, rfl⟩)).mono fun e w' ⟨h1, h2⟩ => ⟨h1, hb.trans (h2.mono hb.size)⟩⟩
  · rw [if_neg hi0]
    cases hq : l[i.toNat]? with
    | none => exact ⟨kb [], 0, false, rfl, fun wr hb => (told_any wr B v l i [] 0 false (h.below hb) hn (.inr ⟨.inr hq, rfl, rfl, rfl⟩)).mono fun e w' ⟨h1, h2⟩ => ⟨h1, hb.trans (h2.mono hb.size)⟩⟩
    | some e =>
      obtain ⟨z, hz⟩ := hi e (List.mem_of_getElem? hq)
      exact ⟨kb e.key, z, true, by rw [toldV, hz], fun wr hb => (told_any wr B v l i e.key z true (h.below hb) hn (.inl ⟨by omega, e, hq, rfl, hz.symm, rfl⟩)).mono fun e w' ⟨h1, h2⟩ => ⟨h1, hb.trans (h2.mono hb.size)⟩⟩
set_option maxRecDepth 100000 in
set_option maxHeartbeats 4000000 in
theorem looks_any (w : World) (B : Nat → Prop) (tb : Nat) (p : P) (d n : Nat) (v : Value) (k : Key) (hs : Sep w (trsi tb p n)) (hg : Afx.Good d p.t) (hn : n = p.t.flat.length) (hl : n ≤ 99999)
    (h : Sl w B 2 v p.t.flat.length (enC p.t.flat)) (hi : IntsE p.t.flat) :
    Calls Try.prog 24 #[ptrV tb, v, .string (kb k)] w fun e w' => e = .returned (.bool true) ∧ Below w.heap.size w w' := by
  have kt0 : Blk w tb 68 [ptrV p.blk, .int .i64 (n : Int)] := hs.all (rTi tb p n) (by simp)
  have HLEN : Hid (∀ wr, Below w.heap.size w wr → Calls Try.prog 18 #[ptrV tb] wr fun e w' => e = .returned (.int .i64 (n : Int)) ∧ Below w.heap.size w w') :=
    fun wr hb => (len_i wr tb p n (kt0.below hb)).mono fun e w' ⟨h1, h2⟩ => ⟨h1, h2 ▸ hb⟩
  have HGET := Lib.hid (fun wr (hb : Below w.heap.size w wr) => (get_i wr tb p d n k (hs.below hb) hg hn hl).mono fun e w' h => (⟨h.1, hb.trans (h.2.mono hb.size)⟩ : _ ∧ Below w.heap.size w w'))
  have HNF := Lib.hid (fun wr (hb : Below w.heap.size w wr) => (next_i wr tb p d n k false (hs.below hb) hg hn hl).mono fun e w' h => (⟨h.1, hb.trans (h.2.mono hb.size)⟩ : _ ∧ Below w.heap.size w w'))
  have HNT := Lib.hid (fun wr (hb : Below w.heap.size w wr) => (next_i wr tb p d n k true (hs.below hb) hg hn hl).mono fun e w' h => (⟨h.1, hb.trans (h.2.mono hb.size)⟩ : _ ∧ Below w.heap.size w w'))
  have HAF := Lib.hid (fun wr (hb : Below w.heap.size w wr) => (ahead_i wr tb p d n k false (hs.below hb) hg hn hl).mono fun e w' h => (⟨h.1, hb.trans (h.2.mono hb.size)⟩ : _ ∧ Below w.heap.size w w'))
  have HAT := Lib.hid (fun wr (hb : Below w.heap.size w wr) => (ahead_i wr tb p d n k true (hs.below hb) hg hn hl).mono fun e w' h => (⟨h.1, hb.trans (h.2.mono hb.size)⟩ : _ ∧ Below w.heap.size w w'))
  have HLA := Lib.hid (fun wr (hb : Below w.heap.size w wr) => (tlast_i wr tb p d n (hs.below hb) hg hn hl).mono fun e w' h => (⟨h.1, hb.trans (h.2.mono hb.size)⟩ : _ ∧ Below w.heap.size w w'))
  have hr := hg.rise
  clear hs hg kt0
  generalize p.t.flat = l at *
  have hll : l.length ≤ 1000000 := by omega
  have HFI := Lib.hid (fun wr (hb : Below w.heap.size w wr) => (lfind_any wr B v l k (h.below hb) hll).mono fun e w' h => (⟨h.1, hb.trans (h.2.mono hb.size)⟩ : _ ∧ Below w.heap.size w w'))
  have hlk := look_at (k := k) hr
  have hab := abv_at (k := k) hr
  have hbl := blw_at (k := k) hr
  have hple := pos_le k l
  have hhas := has_at (k := k) (l := l)
  have hla := getLast_at l
  rw [← hn] at hla hple
  have HB0 := Below.refl w.heap.size w
  obtain ⟨k2, z2, b2, t2, T2⟩ := told_at w B v l (pos k l : Nat) (abv k true l) h hll hi (by rw [hab.1, atI_nat])
  obtain ⟨k3, z3, b3, t3, T3⟩ := told_at w B v l ((pos k l : Nat) - 1) (blw k false l) h hll hi hbl.1
  obtain ⟨k5, z5, b5, t5, T5⟩ := told_at w B v l ((n : Int) - 1) l.getLast? h hll hi hla
  rw [t2] at HNT
  rw [t3] at HAF
  rw [t5] at HLA
  have HT2 := Lib.hid T2
  have HT3 := Lib.hid T3
  have HT5 := Lib.hid T5
  clear T2 T3 T5 t2 t3 t5 hla
  obtain ⟨pt, cap, rfl, hc1, hc2⟩ := h.form
  cases hh : has k l
  · rw [hh] at hlk hab hbl HFI
    obtain ⟨k1, z1, b1, t1, T1⟩ := told_at w B _ l (pos k l : Nat) (abv k false l) h hll hi (by rw [hab.2, atI_nat]; simp)
    obtain ⟨k4, z4, b4, t4, T4⟩ := told_at w B _ l ((pos k l : Nat) - 1) (blw k true l) h hll hi (by rw [hbl.2]; simp)
    rw [t1] at HNF
    rw [t4] at HAT
    have HT1 := Lib.hid T1
    have HT4 := Lib.hid T4
    rw [show Afx.look k l = none by rw [hlk]; simp] at HGET
    simp only [Option.getD_none, Option.isSome_none] at HGET
    clear hlk hab hbl T1 T4 t1 t4 hi hr hll
    have HHH := Lib.hid hhas
    rw [← hn] at hc1
    generalize hpq : pos k l = q at *
    clear hhas hpq
    have HLL := Lib.hid hn
    rw [← hn] at HFI HT1 HT2 HT3 HT4 HT5
    clear h
    go_enter Try.func24, Try.ntmps24
    rw [← hn]
    clear hn
    go_wp2_with (first
      | (go_at_call 27; refine (HFI.out _ (by assumption)).mono ?_; rintro e w' ⟨rfl, hb⟩; clear HFI)
      | (go_at_call 39; refine (HGET.out _ (by assumption)).mono ?_; rintro e w' ⟨rfl, hb⟩; clear HGET)
      | (go_at_call 18; refine (HLEN.out _ (by assumption)).mono ?_; rintro e w' ⟨rfl, hb⟩; clear HLEN)
      | (go_at_call 26; refine (HNF.out _ (by assumption)).mono ?_; rintro e w' ⟨rfl, hb⟩; clear HNF)
      | (go_at_call 26; refine (HNT.out _ (by assumption)).mono ?_; rintro e w' ⟨rfl, hb⟩; clear HNT)
      | (go_at_call 40; refine (HAF.out _ (by assumption)).mono ?_; rintro e w' ⟨rfl, hb⟩; clear HAF)
      | (go_at_call 40; refine (HAT.out _ (by assumption)).mono ?_; rintro e w' ⟨rfl, hb⟩; clear HAT)
      | (go_at_call 41; refine (HLA.out _ (by assumption)).mono ?_; rintro e w' ⟨rfl, hb⟩; clear HLA)
      | (go_at_call 42; refine (HT1.out _ (by assumption)).mono ?_; rintro e w' ⟨rfl, hb⟩; clear HT1)
      | (go_at_call 42; refine (HT2.out _ (by assumption)).mono ?_; rintro e w' ⟨rfl, hb⟩; clear HT2)
      | (go_at_call 42; refine (HT3.out _ (by assumption)).mono ?_; rintro e w' ⟨rfl, hb⟩; clear HT3)
      | (go_at_call 42; refine (HT4.out _ (by assumption)).mono ?_; rintro e w' ⟨rfl, hb⟩; clear HT4)
      | (go_at_call 42; refine (HT5.out _ (by assumption)).mono ?_; rintro e w' ⟨rfl, hb⟩; clear HT5))
    go_ret
    exact ⟨rfl, by assumption⟩
  · have hqn : pos k l < n := by obtain ⟨h1, _⟩ := hhas.1 hh; omega
    obtain ⟨e, he⟩ : ∃ e, l[pos k l]? = some e := ⟨_, List.getElem?_eq_getElem (by omega)⟩
    obtain ⟨z, hz⟩ := hi e (List.mem_of_getElem? he)
    rw [hh] at hlk hab hbl HFI
    obtain ⟨k1, z1, b1, t1, T1⟩ := told_at w B _ l ((pos k l : Nat) + 1) (abv k false l) h hll hi (by rw [hab.2, if_pos rfl]; exact (atI_nat l _).symm)
    obtain ⟨k4, z4, b4, t4, T4⟩ := told_at w B _ l (pos k l : Nat) (blw k true l) h hll hi (by rw [hbl.2, atI_nat]; simp)
    rw [t1] at HNF
    rw [t4] at HAT
    have HT1 := Lib.hid T1
    have HT4 := Lib.hid T4
    rw [show Afx.look k l = some (.int .i64 z) by rw [hlk, if_pos rfl, he, ← hz]; rfl] at HGET
    simp only [Option.getD_some, Option.isSome_some] at HGET
    obtain ⟨g, off, cap', hv2, hg, e0, e1⟩ := sl_en h (k := pos k l) (by omega)
    cases hv2
    obtain ⟨hx1, hx2⟩ := List.getElem?_eq_some_iff.1 he
    rw [hx2, hz] at e1
    have HCE : Hid (∀ wr, Below w.heap.size w wr → wr.cell? ⟨g, off + pos k l * 2 + 1, none⟩ = some (.int .i64 z)) := fun wr hb => (hb.cell (p := ⟨g, off + pos k l * 2 + 1, none⟩) hg).trans e1
    clear hlk hab hbl T1 T4 t1 t4 hi hr hll e0 e1 he hz hx2 hx1 hg
    rw [← hn] at hc1
    generalize hpq : pos k l = q at *
    clear hhas hpq hh
    rw [← hn] at HFI HT1 HT2 HT3 HT4 HT5
    clear h
    go_enter Try.func24, Try.ntmps24
    rw [← hn]
    clear hn
    go_wp2_with (first
      | (go_at_call 27; refine (HFI.out _ (by assumption)).mono ?_; rintro e w' ⟨rfl, hb⟩; clear HFI)
      | (go_at_call 39; refine (HGET.out _ (by assumption)).mono ?_; rintro e w' ⟨rfl, hb⟩; clear HGET; have ecell := HCE.out _ hb)
      | (go_at_call 18; refine (HLEN.out _ (by assumption)).mono ?_; rintro e w' ⟨rfl, hb⟩; clear HLEN)
      | (go_at_call 26; refine (HNF.out _ (by assumption)).mono ?_; rintro e w' ⟨rfl, hb⟩; clear HNF)
      | (go_at_call 26; refine (HNT.out _ (by assumption)).mono ?_; rintro e w' ⟨rfl, hb⟩; clear HNT)
      | (go_at_call 40; refine (HAF.out _ (by assumption)).mono ?_; rintro e w' ⟨rfl, hb⟩; clear HAF)
      | (go_at_call 40; refine (HAT.out _ (by assumption)).mono ?_; rintro e w' ⟨rfl, hb⟩; clear HAT)
      | (go_at_call 41; refine (HLA.out _ (by assumption)).mono ?_; rintro e w' ⟨rfl, hb⟩; clear HLA)
      | (go_at_call 42; refine (HT1.out _ (by assumption)).mono ?_; rintro e w' ⟨rfl, hb⟩; clear HT1)
      | (go_at_call 42; refine (HT2.out _ (by assumption)).mono ?_; rintro e w' ⟨rfl, hb⟩; clear HT2)
      | (go_at_call 42; refine (HT3.out _ (by assumption)).mono ?_; rintro e w' ⟨rfl, hb⟩; clear HT3)
      | (go_at_call 42; refine (HT4.out _ (by assumption)).mono ?_; rintro e w' ⟨rfl, hb⟩; clear HT4)
      | (go_at_call 42; refine (HT5.out _ (by assumption)).mono ?_; rintro e w' ⟨rfl, hb⟩; clear HT5))
    go_ret
    exact ⟨rfl, by assumption⟩
end Go.Proofs.Ytfnndifckgjmjaa
/- The tree's laws: their own functions: with. -/
namespace Go.Afx
open Go Go.RowKit
theorem ins_cut {k : Key} {v : Value} {l : List En} (h : Rise l) : ins k v l = l.take (pos k l) ++ ⟨k, v⟩ :: l.drop (pos k l + if has k l then 1 else 0) := by
  obtain ⟨a, b, he, ha, hlt, hc⟩ := pos_split k l h
  have h1 : l.take (pos k l) = a := by rw [← ha]; conv => lhs; rw [he]
                                       simp
  rw [h1]
  conv => lhs; rw [he, ins_left hlt]
  congr 1
  rcases hc with ⟨hh, u, r, hb, _⟩ | ⟨hh, hgt⟩
  · rw [hb, ins_hit, hh, ← ha, he, hb]
    simp
  · rw [ins_above hgt, hh, ← ha]
    conv => rhs; rw [he]
    simp
theorem del_cut {k : Key} {l : List En} (h : Rise l) : del k l = l.take (pos k l) ++ l.drop (pos k l + if has k l then 1 else 0) := by
  obtain ⟨a, b, he, ha, hlt, hc⟩ := pos_split k l h
  have h1 : l.take (pos k l) = a := by rw [← ha]; conv => lhs; rw [he]
                                       simp
  rw [h1]
  conv => lhs; rw [he, del_left hlt]
  congr 1
  rcases hc with ⟨hh, u, r, hb, _⟩ | ⟨hh, hgt⟩
  · rw [hb, del_hit, hh, ← ha, he, hb]
    simp
  · rw [del_above hgt, hh, ← ha]
    conv => rhs; rw [he]
    simp
end Go.Afx
namespace Go.Proofs.Ytfnndifckgjmjaa
open Go.RowKit Go.Afx
theorem elemPair : Elem Try.prog 26 31 2 24 (.agg #[.string ⟨#[]⟩, .int .i64 0]) :=
  ⟨Try.underlying26, by kernel_rfl, rfl, by omega, by intro u hu; simp [Value.cells] at hu; rcases hu with rfl | rfl <;> rfl⟩
/-- What with makes of the parts. -/
def withL (l : List En) (k : Key) (z : Int) (gone : Bool) : List En := if gone then del k l else ins k (.int .i64 z) l
/-- A list in the making: its block is new. -/
def Acc (w wr : World) (v : Value) (n : Nat) (cs : List Value) : Prop := Own wr 31 2 v n cs ∧ (∀ q, v.ownBlock = some q → w.heap.size ≤ q) ∧ Below w.heap.size w wr
theorem Acc.app {w wr w' : World} {v v' : Value} {n n' : Nat} {cs cs' : List Value} (h : Acc w wr v n cs) (g1 : Own w' 31 2 v' n' cs') (g2 : Only (fun k => v.ownBlock = some k) wr w') (g3 : v'.ownBlock = v.ownBlock ∨ v'.ownBlock = some wr.heap.size) : Acc w w' v' n' cs' :=
  ⟨g1, fun q hq => by
    rcases g3 with h1 | h1
    · exact h.2.1 q (h1 ▸ hq)
    · rw [h1] at hq
      have h2 : wr.heap.size = q := Option.some.inj hq
      have h3 := h.2.2.size
      omega, h.2.2.trans (g2.below h.2.2.size (fun q hq => h.2.1 q hq))⟩
theorem Acc.alloc {w wr : World} {v : Value} {n : Nat} {cs : List Value} (h : Acc w wr v n cs) (o : Obj) : Acc w (wr.alloc o) v n cs :=
  ⟨h.1.below ((Below.refl _ _).alloc (Nat.le_refl _) _), h.2.1, h.2.2.alloc h.2.2.size _⟩
theorem Acc.fresh {w wr : World} (h : Below w.heap.size w wr) : Acc w (wr.alloc (.cells #[] 31)) (.slice (some ⟨wr.heap.size, 0, none⟩) 0 0) 0 [] :=
  ⟨Own.made wr 31 2 [] [] 0 0 rfl Ones.nil (Nat.le_refl _) (by simp [maxLen]) (by simp), fun q hq => by
    have h2 : wr.heap.size = q := Option.some.inj hq
    have h3 := h.size
    omega, h.alloc h.size _⟩
theorem sl_single (w : World) (t : TypeId) (cs : List Value) (h : Ones cs) (h2 : cs.length = 2) : Sl (w.alloc (.cells cs.toArray t)) (fun _ => True) 2 (.slice (some ⟨w.heap.size, 0, none⟩) 1 1) 1 cs := by
  have hxb := Blk.new w t cs
  exact ⟨h2, h, .inr ⟨w.heap.size, 0, 1, rfl, Nat.le_refl _, by simp [maxLen], trivial, hxb.lt, fun j hj => by rw [Nat.zero_add]; exact hxb.cell j⟩⟩
/-- A slice cut at the front, as the model cuts it. -/
theorem sl_from2 {w : World} {B : Nat → Prop} {g off n cap : Nat} {cs : List Value} (h : Sl w B 2 (.slice (some ⟨g, off, none⟩) n cap) n cs) {k : Nat} (hk : k ≤ n) :
    Sl w B 2 (.slice (if cap = k then some ⟨g, off, none⟩ else some ⟨g, off + k * 2, none⟩) (n - k) (cap - k)) (n - k) (cs.drop (k * 2)) := by
  have h1 := h.from hk
  by_cases hc : cap = k
  · rw [if_pos hc]
    obtain ⟨p0, cap0, hv0, hnc, hcm⟩ := h.form
    cases hv0
    have h0 : n - k = 0 := by omega
    rw [h0] at h1 ⊢
    exact ⟨h1.1, h1.2.1, .inl ⟨_, _, rfl, rfl, by unfold maxLen; omega, fun h => by cases h⟩⟩
  · rw [if_neg hc]; exact h1
set_option maxRecDepth 100000 in
set_option maxHeartbeats 2000000 in
theorem with_some (w : World) (g off cap : Nat) (l : List En) (k : Key) (z : Int) (gone : Bool) (hsl : Sl w (fun _ => True) 2 (.slice (some ⟨g, off, none⟩) l.length cap) l.length (enC l)) (hr : Rise l) (hn : l.length ≤ 99999) :
    Calls Try.prog 28 #[.slice (some ⟨g, off, none⟩) l.length cap, .string (kb k), .int .i64 z, .bool gone] w fun e w' => ∃ v', e = .returned v' ∧ Acc w w' v' (withL l k z gone).length (enC (withL l k z gone)) := by
  have HFI := Lib.hid (lfind_any w (fun _ => True) _ l k hsl (by omega))
  have hple := pos_le k l
  have hhas := has_at (k := k) (l := l)
  have hins := ins_cut (k := k) (v := .int .i64 z) hr
  have hdel := del_cut (k := k) hr
  obtain ⟨p0, cap0, hv0, hnc, hcm⟩ := hsl.form
  cases hv0
  have hqn : has k l = true → pos k l < l.length := fun hh => (hhas.1 hh).1
  have htk : (enC l).take (pos k l * 2) = enC (l.take (pos k l)) := (enC_td l _).1
  have HS1 : Hid (∀ wr, Below w.heap.size w wr → Sl wr (fun _ => True) 2 (.slice (some ⟨g, off, none⟩) (pos k l) cap) (pos k l) (enC (l.take (pos k l)))) := fun wr hb => htk ▸ (hsl.take hple).below hb
  have HS3 : Hid (∀ j, j ≤ l.length → ∀ wr, Below w.heap.size w wr → Sl wr (fun _ => True) 2 (.slice (if cap = j then some ⟨g, off, none⟩ else some ⟨g, off + j * 2, none⟩) (l.length - j) (cap - j)) (l.length - j) (enC (l.drop j))) := fun j hj wr hb => (enC_td l j).2 ▸ (sl_from2 hsl hj).below hb
  have HIL : Hid (∀ j, j = pos k l + (if has k l then 1 else 0) → withL l k z false = l.take (pos k l) ++ ([⟨k, .int .i64 z⟩] ++ l.drop j)) := fun j hj => by subst hj; exact hins
  have HDL : Hid (∀ j, j = pos k l + (if has k l then 1 else 0) → withL l k z true = l.take (pos k l) ++ l.drop j) := fun j hj => by subst hj; exact hdel
  have HTL : Hid (∀ j, (l.drop j).length = l.length - j) := fun j => List.length_drop
  have HTT : Hid ((l.take (pos k l)).length = pos k l) := by show _ = _; rw [List.length_take]; omega
  clear hins hdel hhas htk hr hsl
  generalize hhq : has k l = hb at *
  generalize hpq : pos k l = q at *
  obtain ⟨n, hnn⟩ : ∃ n, l.length = n := ⟨_, rfl⟩
  rw [hnn] at HS3 HTL hn hple hnc hqn HFI ⊢
  have HO2 : Ones [.string (kb k), .int .i64 z] := Ones.cons rfl (Ones.cons rfl Ones.nil)
  clear hhq hpq hnn
  cases gone
  · cases hb
    · have hj : q ≤ n := hple
      have h3 := HS3.out q hj
      have h4 := HIL.out q rfl
      have HH4 := Lib.hid h4
      clear h4
      go_enter Try.func28, Try.ntmps28
      go_wp2_with (first
        | (go_at_call 27; refine HFI.out.mono ?_; rintro e w1 ⟨rfl, hb1⟩; clear HFI; have A1 := Acc.fresh hb1; have S1 := HS1.out _ A1.2.2)
        | (at_builtin; refine wpList_app rfl _ _ rfl elemPair (by rfl) A1.1 (by rfl) S1 (by unfold maxLen; omega) (by omega) ?_; intro v1 w3 g1 g2 g3 _ _; have A2 := A1.app g1 g2 g3; have A3 := A2.alloc (.cells #[.string (kb k), .int .i64 z] 31); have S3 := sl_single w3 31 [.string (kb k), .int .i64 z] HO2 rfl; clear g1 g2 g3 A1 S1 A2)
        | (at_builtin; refine wpList_app rfl _ _ rfl elemPair (by rfl) A3.1 (by rfl) S3 (by unfold maxLen; omega) (by omega) ?_; intro v2 w4 g1 g2 g3 _ _; have A4 := A3.app g1 g2 g3; have S4 := h3 _ A4.2.2; clear g1 g2 g3 A3 S3)
        | (at_builtin; refine wpList_app rfl _ _ rfl elemPair (by rfl) A4.1 (by rfl) S4 (by unfold maxLen; omega) (by omega) ?_; intro v3 w5 g1 g2 g3 _ _; have A5 := A4.app g1 g2 g3; clear g1 g2 g3 A4 S4))
      all_goals
        go_ret
        rw [HH4.out]
        refine ⟨_, rfl, ?_⟩
        have hll := HTL.out q
        have htt := HTT.out
        generalize l.take q = lt at *
        generalize l.drop q = ld at *
        have e1 : (lt ++ ([(⟨k, .int .i64 z⟩ : En)] ++ ld)).length = 0 + q + 1 + (n - q) := by rw [List.length_append, List.length_append, hll, htt, List.length_singleton]; omega
        have e2 : enC [(⟨k, .int .i64 z⟩ : En)] = [.string (kb k), .int .i64 z] := rfl
        rw [e1, enC_append, enC_append, e2]
        simpa using A5
    · have hj : (q + 1) ≤ n := hqn rfl
      have h3 := HS3.out (q + 1) hj
      have h4 := HIL.out (q + 1) rfl
      have HH4 := Lib.hid h4
      clear h4
      go_enter Try.func28, Try.ntmps28
      go_wp2_with (first
        | (go_at_call 27; refine HFI.out.mono ?_; rintro e w1 ⟨rfl, hb1⟩; clear HFI; have A1 := Acc.fresh hb1; have S1 := HS1.out _ A1.2.2)
        | (at_builtin; refine wpList_app rfl _ _ rfl elemPair (by rfl) A1.1 (by rfl) S1 (by unfold maxLen; omega) (by omega) ?_; intro v1 w3 g1 g2 g3 _ _; have A2 := A1.app g1 g2 g3; have A3 := A2.alloc (.cells #[.string (kb k), .int .i64 z] 31); have S3 := sl_single w3 31 [.string (kb k), .int .i64 z] HO2 rfl; clear g1 g2 g3 A1 S1 A2)
        | (at_builtin; refine wpList_app rfl _ _ rfl elemPair (by rfl) A3.1 (by rfl) S3 (by unfold maxLen; omega) (by omega) ?_; intro v2 w4 g1 g2 g3 _ _; have A4 := A3.app g1 g2 g3; have S4 := h3 _ A4.2.2; clear g1 g2 g3 A3 S3)
        | (at_builtin; refine wpList_app rfl _ _ rfl elemPair (by rfl) A4.1 (by rfl) S4 (by unfold maxLen; omega) (by omega) ?_; intro v3 w5 g1 g2 g3 _ _; have A5 := A4.app g1 g2 g3; clear g1 g2 g3 A4 S4))
      all_goals
        go_ret
        rw [HH4.out]
        refine ⟨_, rfl, ?_⟩
        have hll := HTL.out (q + 1)
        have htt := HTT.out
        generalize l.take q = lt at *
        generalize l.drop (q + 1) = ld at *
        have e1 : (lt ++ ([(⟨k, .int .i64 z⟩ : En)] ++ ld)).length = 0 + q + 1 + (n - (q + 1)) := by rw [List.length_append, List.length_append, hll, htt, List.length_singleton]; omega
        have e2 : enC [(⟨k, .int .i64 z⟩ : En)] = [.string (kb k), .int .i64 z] := rfl
        rw [e1, enC_append, enC_append, e2]
        simpa using A5
  · cases hb
    · have hj : q ≤ n := hple
      have h3 := HS3.out q hj
      have h4 := HDL.out q rfl
      have HH4 := Lib.hid h4
      clear h4
      go_enter Try.func28, Try.ntmps28
      go_wp2_with (first
        | (go_at_call 27; refine HFI.out.mono ?_; rintro e w1 ⟨rfl, hb1⟩; clear HFI; have A1 := Acc.fresh hb1; have S1 := HS1.out _ A1.2.2)
        | (at_builtin; refine wpList_app rfl _ _ rfl elemPair (by rfl) A1.1 (by rfl) S1 (by unfold maxLen; omega) (by omega) ?_; intro v1 w3 g1 g2 g3 _ _; have A4 := A1.app g1 g2 g3; have S4 := h3 _ A4.2.2; clear g1 g2 g3 A1 S1)
        | (at_builtin; refine wpList_app rfl _ _ rfl elemPair (by rfl) A4.1 (by rfl) S4 (by unfold maxLen; omega) (by omega) ?_; intro v3 w5 g1 g2 g3 _ _; have A5 := A4.app g1 g2 g3; clear g1 g2 g3 A4 S4))
      all_goals
        go_ret
        rw [HH4.out]
        refine ⟨_, rfl, ?_⟩
        have hll := HTL.out q
        have htt := HTT.out
        generalize l.take q = lt at *
        generalize l.drop q = ld at *
        have e1 : (lt ++ ld).length = 0 + q + (n - q) := by rw [List.length_append, hll, htt]; omega
        rw [e1, enC_append]
        simpa using A5
    · have hj : (q + 1) ≤ n := hqn rfl
      have h3 := HS3.out (q + 1) hj
      have h4 := HDL.out (q + 1) rfl
      have HH4 := Lib.hid h4
      clear h4
      go_enter Try.func28, Try.ntmps28
      go_wp2_with (first
        | (go_at_call 27; refine HFI.out.mono ?_; rintro e w1 ⟨rfl, hb1⟩; clear HFI; have A1 := Acc.fresh hb1; have S1 := HS1.out _ A1.2.2)
        | (at_builtin; refine wpList_app rfl _ _ rfl elemPair (by rfl) A1.1 (by rfl) S1 (by unfold maxLen; omega) (by omega) ?_; intro v1 w3 g1 g2 g3 _ _; have A4 := A1.app g1 g2 g3; have S4 := h3 _ A4.2.2; clear g1 g2 g3 A1 S1)
        | (at_builtin; refine wpList_app rfl _ _ rfl elemPair (by rfl) A4.1 (by rfl) S4 (by unfold maxLen; omega) (by omega) ?_; intro v3 w5 g1 g2 g3 _ _; have A5 := A4.app g1 g2 g3; clear g1 g2 g3 A4 S4))
      all_goals
        go_ret
        rw [HH4.out]
        refine ⟨_, rfl, ?_⟩
        have hll := HTL.out (q + 1)
        have htt := HTT.out
        generalize l.take q = lt at *
        generalize l.drop (q + 1) = ld at *
        have e1 : (lt ++ ld).length = 0 + q + (n - (q + 1)) := by rw [List.length_append, hll, htt]; omega
        rw [e1, enC_append]
        simpa using A5
set_option maxRecDepth 100000 in
set_option maxHeartbeats 2000000 in
theorem with_none (w : World) (k : Key) (z : Int) (gone : Bool) :
    Calls Try.prog 28 #[.slice none 0 0, .string (kb k), .int .i64 z, .bool gone] w fun e w' => ∃ v', e = .returned v' ∧ Acc w w' v' (withL [] k z gone).length (enC (withL [] k z gone)) := by
  have hsl : ∀ wr, Sl wr (fun _ => True) 2 (.slice none 0 0) 0 (enC []) := fun wr => (Own.nil wr 31 2).sl (B := fun _ => True) (fun _ _ => trivial)
  have HFI := Lib.hid (lfind_any w (fun _ => True) _ [] k (hsl w) (by simp))
  have hp0 : pos k [] = 0 := rfl
  have hh0 : has k [] = false := rfl
  rw [hp0, hh0] at HFI
  have HO2 : Ones [.string (kb k), .int .i64 z] := Ones.cons rfl (Ones.cons rfl Ones.nil)
  clear hp0 hh0
  cases gone
  · go_enter Try.func28, Try.ntmps28
    go_wp2_with (first
      | (go_at_call 27; refine HFI.out.mono ?_; rintro e w1 ⟨rfl, hb1⟩; clear HFI; have A1 := Acc.fresh hb1; have S1 := hsl (w1.alloc (.cells #[] 31)))
      | (at_builtin; refine wpList_app rfl _ _ rfl elemPair (by rfl) A1.1 (by rfl) S1 (by unfold maxLen; omega) (by omega) ?_; intro v1 w3 g1 g2 g3 _ _; have A2 := A1.app g1 g2 g3; have A3 := A2.alloc (.cells #[.string (kb k), .int .i64 z] 31); have S3 := sl_single w3 31 [.string (kb k), .int .i64 z] HO2 rfl; clear g1 g2 g3 A1 S1 A2)
      | (at_builtin; refine wpList_app rfl _ _ rfl elemPair (by rfl) A3.1 (by rfl) S3 (by unfold maxLen; omega) (by omega) ?_; intro v2 w4 g1 g2 g3 _ _; have A4 := A3.app g1 g2 g3; have S4 := hsl w4; clear g1 g2 g3 A3 S3)
      | (at_builtin; refine wpList_app rfl _ _ rfl elemPair (by rfl) A4.1 (by rfl) S4 (by unfold maxLen; omega) (by omega) ?_; intro v3 w5 g1 g2 g3 _ _; have A5 := A4.app g1 g2 g3; clear g1 g2 g3 A4 S4))
    all_goals
      go_ret
      exact ⟨_, rfl, A5⟩
  · go_enter Try.func28, Try.ntmps28
    go_wp2_with (first
      | (go_at_call 27; refine HFI.out.mono ?_; rintro e w1 ⟨rfl, hb1⟩; clear HFI; have A1 := Acc.fresh hb1; have S1 := hsl (w1.alloc (.cells #[] 31)))
      | (at_builtin; refine wpList_app rfl _ _ rfl elemPair (by rfl) A1.1 (by rfl) S1 (by unfold maxLen; omega) (by omega) ?_; intro v1 w3 g1 g2 g3 _ _; have A4 := A1.app g1 g2 g3; have S4 := hsl w3; clear g1 g2 g3 A1 S1)
      | (at_builtin; refine wpList_app rfl _ _ rfl elemPair (by rfl) A4.1 (by rfl) S4 (by unfold maxLen; omega) (by omega) ?_; intro v3 w5 g1 g2 g3 _ _; have A5 := A4.app g1 g2 g3; clear g1 g2 g3 A4 S4))
    all_goals
      go_ret
      exact ⟨_, rfl, A5⟩
theorem with_any (w : World) (v : Value) (l : List En) (k : Key) (z : Int) (gone : Bool) (h : Own w 31 2 v l.length (enC l)) (hr : Rise l) (hn : l.length ≤ 99999) :
    Calls Try.prog 28 #[v, .string (kb k), .int .i64 z, .bool gone] w fun e w' => ∃ v', e = .returned v' ∧ Acc w w' v' (withL l k z gone).length (enC (withL l k z gone)) := by
  have hsl := h.sl (B := fun _ => True) (fun _ _ => trivial)
  rcases h.2.2 with ⟨rfl, h0⟩ | ⟨g, off, cap, cur, rfl, hbk, hnc, hcm, _⟩
  · obtain rfl : l = [] := List.eq_nil_of_length_eq_zero h0
    exact with_none w k z gone
  · exact with_some w g off cap l k z gone hsl hr hn
end Go.Proofs.Ytfnndifckgjmjaa
/- The tree's laws: their own functions: play. -/
namespace Go.Proofs.Ytfnndifckgjmjaa
open Go.RowKit Go.Afx

/-- A tree that holds l', and a list of pairs l. -/
def St (w : World) (tb : Nat) (v : Value) (l l' : List En) (wr : World) : Prop :=
  ∃ p d n, Trk w [] wr (Res.own 31 2 v l.length (enC l) :: trsi tb p n) ∧ Afx.Good d p.t ∧ n = p.t.flat.length ∧ p.t.flat = l'
theorem St.low {w wr : World} {tb : Nat} {v : Value} {l l' : List En} (h : St w tb v l l' wr) : Below w.heap.size w wr := by
  obtain ⟨p, d, n, T, _⟩ := h
  exact T.only.below (Nat.le_refl _) (fun k hk => by simp at hk)
theorem St.below {w wr w' : World} {tb : Nat} {v : Value} {l l' : List En} (h : St w tb v l l' wr) (hb : Below wr.heap.size wr w') : St w tb v l l' w' := by
  obtain ⟨p, d, n, T, h2⟩ := h
  exact ⟨p, d, n, T.below hb, h2⟩
theorem St.rise {w wr : World} {tb : Nat} {v : Value} {l l' : List En} (h : St w tb v l l' wr) : Rise l' := by
  obtain ⟨p, d, n, T, hg, h2, h3⟩ := h
  exact h3 ▸ hg.rise
theorem St.own {w wr : World} {tb : Nat} {v : Value} {l l' : List En} (h : St w tb v l l' wr) : Own wr 31 2 v l.length (enC l) := by
  obtain ⟨p, d, n, T, _⟩ := h
  exact T.own (by simp only [List.mem_cons, true_or])
theorem put_step (w wr : World) (tb : Nat) (v : Value) (l : List En) (k : Key) (z : Int) (h : St w tb v l l wr) (hl : l.length ≤ 99998) :
    Calls Try.prog 15 #[ptrV tb, .string (kb k), .int .i64 z] wr fun e w' => e = .returned (.tuple #[(Afx.look k l).getD (.int .i64 0), .bool (Afx.look k l).isSome]) ∧ St w tb v l (withL l k z false) w' := by
  obtain ⟨p, d, n, T, hg, hn, hf⟩ := h
  have T2 := T.perm (List.perm_append_comm (l₁ := [Res.own 31 2 v l.length (enC l)]) (l₂ := trsi tb p n))
  have hp := tput_i wr tb p d n k z T2.sep.left hg hn (by rw [hn, hf]; omega)
  rw [hf] at hp
  refine hp.mono ?_
  rintro e w' ⟨he, p', hp', T3⟩
  refine ⟨he, p', (putTop k (.int .i64 z) d p.t).1, _, (T2.call T3).perm (List.perm_append_comm (l₁ := trsi tb p' _) (l₂ := [Res.own 31 2 v l.length (enC l)])), ?_, ?_, ?_⟩
  · rw [hp']; exact (putTop_good hg).1
  · rw [hp', (putTop_good hg).2, look_ins_len hg.rise, hf, hn, hf]
  · rw [hp', (putTop_good hg).2, hf]; rfl
theorem del_step (w wr : World) (tb : Nat) (v : Value) (l : List En) (k : Key) (z : Int) (h : St w tb v l l wr) (hl : l.length ≤ 99998) :
    Calls Try.prog 20 #[ptrV tb, .string (kb k)] wr fun e w' => e = .returned (.tuple #[(Afx.look k l).getD (.int .i64 0), .bool (Afx.look k l).isSome]) ∧ St w tb v l (withL l k z true) w' := by
  obtain ⟨p, d, n, T, hg, hn, hf⟩ := h
  have T2 := T.perm (List.perm_append_comm (l₁ := [Res.own 31 2 v l.length (enC l)]) (l₂ := trsi tb p n))
  have hp := tdel_i wr tb p d n k T2.sep.left hg hn (by rw [hn, hf]; omega)
  rw [hf] at hp
  refine hp.mono ?_
  rintro e w' ⟨he, d', p', hg', hp', T3⟩
  refine ⟨he, p', d', _, (T2.call T3).perm (List.perm_append_comm (l₁ := trsi tb p' _) (l₂ := [Res.own 31 2 v l.length (enC l)])), hg', ?_, hp'⟩
  rw [hp', look_del_len (hf ▸ hg.rise), hn, hf]
theorem with_step (w wr : World) (tb : Nat) (v : Value) (l l' : List En) (k : Key) (z : Int) (gone : Bool) (h : St w tb v l l' wr) (hr : Rise l) (hl : l.length ≤ 99998) :
    Calls Try.prog 28 #[v, .string (kb k), .int .i64 z, .bool gone] wr fun e w' => ∃ v', e = .returned v' ∧ St w tb v' (withL l k z gone) l' w' := by
  have ho := h.own
  obtain ⟨p, d, n, T, h2⟩ := h
  refine (with_any wr v l k z gone ho hr (by omega)).mono ?_
  rintro e w' ⟨v', he, ha, hfr, hb⟩
  exact ⟨v', he, p, d, n, T.drop.new ha (ownBlock_nodup v') (fun q hq => hfr q (by simpa [Res.own] using hq)) hb, h2⟩
end Go.Proofs.Ytfnndifckgjmjaa
/- The tree's laws: their own functions: play. -/
namespace Go.Afx
open Go Go.RowKit
theorem IntsE.ins {l : List En} (h : IntsE l) (k : Key) (z : Int) : IntsE (ins k (.int .i64 z) l) := fun e he => by
  rcases mem_ins he with rfl | h2
  · exact ⟨z, rfl⟩
  · exact h e h2
theorem IntsE.del {l : List En} (h : IntsE l) (k : Key) : IntsE (del k l) := fun e he => h e (mem_del he)
end Go.Afx
namespace Go.Proofs.Ytfnndifckgjmjaa
open Go.RowKit Go.Afx
theorem withL_ints {l : List En} (h : IntsE l) (k : Key) (z : Int) (gone : Bool) : IntsE (withL l k z gone) := by
  cases gone
  · exact h.ins k z
  · exact h.del k
theorem withL_len (l : List En) (k : Key) (z : Int) (gone : Bool) : (withL l k z gone).length ≤ l.length + 1 := by
  cases gone
  · exact ins_length _ _ _
  · exact Nat.le_succ_of_le (del_length _ _)
theorem St.drew {w wr : World} {tb : Nat} {v : Value} {l l' : List En} (h : St w tb v l l' wr) : St w tb v l l' wr.drew := h.below (Below.refl _ _).drew
set_option maxRecDepth 100000 in
set_option maxHeartbeats 1000000 in
theorem play_any (w : World) (v : Value) (a : List TAct) (h : Sl w (fun _ => True) 3 v a.length (actC a)) (hn : a.length ≤ 150) :
    Calls Try.prog 9 #[v] w fun e w' => ∃ tb v' l, e = .returned (.tuple #[ptrV tb, v', .bool true]) ∧ St w tb v' l l w' ∧ l.length ≤ 150 ∧ IntsE l := by
  obtain ⟨p, cap, rfl, hc1, hc2⟩ := h.form
  have HSL := Lib.hid h
  obtain ⟨m, hm⟩ : ∃ m, a.length = m := ⟨_, rfl⟩
  rw [hm] at hn hc1 ⊢
  have HM := Lib.hid hm
  clear h hm
  go_enter Try.func9, Try.ntmps9
  go_wp2_with (go_at_call 13; refine (new_i w).mono ?_; rintro e w1 ⟨tb, q, rfl, hq, T⟩)
  have hst : St w tb (.slice none 0 0) [] [] w1 := ⟨q, 0, 0, T.new (r := Res.own 31 2 (.slice none 0 0) 0 (enC [])) (Own.nil _ _ _) (by simp [Res.own, Value.ownBlock]) (fun k hk => by simp [Res.own, Value.ownBlock] at hk) (Below.refl _ _), by rw [hq]; exact Afx.Good.new, by rw [hq, flat_leaf]; rfl, by rw [hq, flat_leaf]⟩
  have HS0 := Lib.hid hst
  clear hst T hq
  go_loopw [6, 7] (fun pv i wr => ∃ j : Nat, i = .int .i64 j ∧ j ≤ m ∧ ∃ l, St w tb pv l l wr ∧ l.length ≤ j ∧ IntsE l) (fun _ i _ => m - (intOf i).toNat)
  case atStart => exact ⟨0, rfl, Nat.zero_le _, [], HS0.out, Nat.le_refl _, fun e he => by simp at he⟩
  case round =>
    obtain ⟨j, rfl, hj, l, hst, hlj, hie⟩ := hrel
    generalize u6 = pv at *
    by_cases hjm : j < m
    · have hjl : j < a.length := by rw [HM.out]; exact hjm
      obtain ⟨g, off, cap', hv, hg, e0, e1, e2⟩ := sl_act HSL.out hjl
      rw [HM.out] at hv
      cases hv
      generalize (a[j]).kind = xk at *
      generalize (a[j]).key = xy at *
      generalize (a[j]).val = xv at *
      have HCELL : Hid (∀ wr, Below w.heap.size w wr → wr.cell? ⟨g, off + j * 3, none⟩ = some (.int .i64 xk) ∧ wr.cell? ⟨g, off + j * 3 + 1, none⟩ = some (.string (kb xy)) ∧ wr.cell? ⟨g, off + j * 3 + 2, none⟩ = some (.int .i64 xv)) :=
        fun wr hb => ⟨(hb.cell (p := ⟨g, _, none⟩) hg).trans e0, (hb.cell (p := ⟨g, _, none⟩) hg).trans e1, (hb.cell (p := ⟨g, _, none⟩) hg).trans e2⟩
      obtain ⟨c10, c11, c12⟩ := HCELL.out wr hst.low
      have hsl := hst.own.sl (B := fun _ => True) (fun _ _ => trivial)
      obtain ⟨pp, cc, rfl, hp1, hp2⟩ := hsl.form
      have HFI := Lib.hid (lfind_any wr (fun _ => True) _ l xy hsl (by omega))
      have hlk := look_at (k := xy) hst.rise
      have HRI := Lib.hid hst.rise
      have HST := Lib.hid hst
      have HIE := Lib.hid hie
      have hhas := has_at (k := xy) (l := l)
      clear e0 e1 e2 hg
      cases hh : has xy l
      · rw [hh] at HFI hlk
        have HLK : Hid (Afx.look xy l = none) := by show _ = _; rw [hlk]; simp
        clear hlk hhas hst hie hsl hh
        generalize pos xy l = q at *
        by_cases hk : xk = 0
        · subst hk
          go_wp2_with (go_at_call 27; refine HFI.out.mono ?_; rintro e w3 ⟨rfl, hb3⟩; clear HFI; have S3 := (HST.out.below hb3).drew; obtain ⟨c30, c31, c32⟩ := HCELL.out w3 (HST.out.below hb3).low;  have act := put_step w w3.drew tb _ l xy xv S3 (by omega); rw [HLK.out] at act; simp only [Option.getD_none, Option.isSome_none] at act; have ACT := Lib.hid act; clear act)
          refine wp_region_lit_plan [] [(0, 0), (1, 0), (2, 0), (3, 0), (4, 0), (6, 0), (7, 0), (8, 0), (9, 0), (5, 1), (10, 1), (11, 4), (12, 0), (13, 0), (14, 0), (15, 0), (16, 0)] (fun _ => False) (by kernel_rfl) (by kernel_rfl) (fun c a d v w h => by cases d <;> exact h) ?_
          go_wp2_with (first
            | (refine plan_pure (v := _) (by rfl) (by rfl) (by rfl) (by intro _; go_simp; with_reducible rfl) ?_; simp only [List.setIfInBounds_toArray, List.set_cons_zero, List.set_cons_succ]; try go_bits) | (refine plan_read (v := _) (by rfl) (by rfl) (by rfl) (by go_simp; with_reducible rfl) ?_; simp only [List.setIfInBounds_toArray, List.set_cons_zero, List.set_cons_succ]; try go_bits) | (refine plan_readB (v := _) (by rfl) (by rfl) (by rfl) (by intro _ hag; unfold Agree at hag; go_simp; with_reducible rfl) ?_; simp only [List.setIfInBounds_toArray, List.set_cons_zero, List.set_cons_succ]; try go_bits) | (refine plan_skip0 (by rfl) (by rfl) (by rfl) ?_; simp only [List.setIfInBounds_toArray, List.set_cons_zero, List.set_cons_succ]; try go_bits) | (refine plan_skip1 (by rfl) (by rfl) (by rfl) ?_; simp only [List.setIfInBounds_toArray, List.set_cons_zero, List.set_cons_succ]; try go_bits) | (refine plan_skip2 (by rfl) (by rfl) (by rfl) ?_; simp only [List.setIfInBounds_toArray, List.set_cons_zero, List.set_cons_succ]; try go_bits) | (refine plan_skip4 (by rfl) (by rfl) (by rfl) ?_; simp only [List.setIfInBounds_toArray, List.set_cons_zero, List.set_cons_succ]; try go_bits) | (refine plan_any (by rfl) ?_) | (refine plan_keep (by rfl) ?_) | (refine plan_nil ?_) | (with_reducible refine And.intro (by first | assumption | exact Agree.refl _ _ | exact agree_drew _ _ | exact agree_alloc _ (by intro k hk; subst hk; first | omega | (simp; omega))) ?_) | (unfold Act.put; simp only [List.setIfInBounds_toArray, List.set_cons_zero, List.set_cons_succ])
            | (go_at_call 15; refine ACT.out.mono ?_; rintro e w4 ⟨rfl, S4⟩; clear ACT; obtain ⟨c40, c41, c42⟩ := HCELL.out w4 S4.low; have WITH := Lib.hid (with_step w w4.drew tb _ l _ xy xv false S4.drew HRI.out (by omega))))
          refine wp_region_lit_plan [] [(0, 0), (1, 0), (2, 0), (3, 0), (4, 0), (6, 0), (7, 0), (8, 0), (9, 0), (11, 0), (12, 0), (13, 0), (14, 0), (5, 1), (10, 1), (15, 1), (16, 0), (17, 4), (18, 0)] (fun _ => False) (by kernel_rfl) (by kernel_rfl) (fun c a d v w h => by cases d <;> exact h) ?_
          go_wp2_with (first
            | (refine plan_pure (v := _) (by rfl) (by rfl) (by rfl) (by intro _; go_simp; with_reducible rfl) ?_; simp only [List.setIfInBounds_toArray, List.set_cons_zero, List.set_cons_succ]; try go_bits) | (refine plan_read (v := _) (by rfl) (by rfl) (by rfl) (by go_simp; with_reducible rfl) ?_; simp only [List.setIfInBounds_toArray, List.set_cons_zero, List.set_cons_succ]; try go_bits) | (refine plan_readB (v := _) (by rfl) (by rfl) (by rfl) (by intro _ hag; unfold Agree at hag; go_simp; with_reducible rfl) ?_; simp only [List.setIfInBounds_toArray, List.set_cons_zero, List.set_cons_succ]; try go_bits) | (refine plan_skip0 (by rfl) (by rfl) (by rfl) ?_; simp only [List.setIfInBounds_toArray, List.set_cons_zero, List.set_cons_succ]; try go_bits) | (refine plan_skip1 (by rfl) (by rfl) (by rfl) ?_; simp only [List.setIfInBounds_toArray, List.set_cons_zero, List.set_cons_succ]; try go_bits) | (refine plan_skip2 (by rfl) (by rfl) (by rfl) ?_; simp only [List.setIfInBounds_toArray, List.set_cons_zero, List.set_cons_succ]; try go_bits) | (refine plan_skip4 (by rfl) (by rfl) (by rfl) ?_; simp only [List.setIfInBounds_toArray, List.set_cons_zero, List.set_cons_succ]; try go_bits) | (refine plan_any (by rfl) ?_) | (refine plan_keep (by rfl) ?_) | (refine plan_nil ?_) | (with_reducible refine And.intro (by first | assumption | exact Agree.refl _ _ | exact agree_drew _ _ | exact agree_alloc _ (by intro k hk; subst hk; first | omega | (simp; omega))) ?_) | (unfold Act.put; simp only [List.setIfInBounds_toArray, List.set_cons_zero, List.set_cons_succ])
            | (go_at_call 28; refine WITH.out.mono ?_; rintro e w5 ⟨v5, rfl, S5⟩; clear WITH))
          go_roundw
          case rel => exact ⟨j + 1, by go_num, by omega, _, S5, Nat.le_trans (withL_len _ _ _ _) (by omega), withL_ints HIE.out _ _ _⟩
          case measure => (simp [intOf]) <;> omega
        · have hk2 : (xk != 0) = true := bne_iff_ne.2 hk
          have hk3 : (xk == 0) = false := beq_eq_false_iff_ne.2 hk
          go_wp2_with (first
            | (go_at_call 27; refine HFI.out.mono ?_; rintro e w3 ⟨rfl, hb3⟩; clear HFI; have S3 := HST.out.below hb3; obtain ⟨c30, c31, c32⟩ := HCELL.out w3 (HST.out.below hb3).low;  have act := del_step w w3 tb _ l xy xv S3 (by omega); rw [HLK.out] at act; simp only [Option.getD_none, Option.isSome_none] at act; have ACT := Lib.hid act; clear act)
            | (go_at_call 20; refine ACT.out.mono ?_; rintro e w4 ⟨rfl, S4⟩; clear ACT; obtain ⟨c40, c41, c42⟩ := HCELL.out w4 S4.low; have WITH := Lib.hid (with_step w w4.drew tb _ l _ xy xv true S4.drew HRI.out (by omega))))
          refine wp_region_lit_plan [] [(0, 0), (1, 0), (2, 0), (3, 0), (4, 0), (6, 0), (7, 0), (8, 0), (9, 0), (11, 0), (12, 0), (13, 0), (14, 0), (5, 1), (10, 1), (15, 1), (16, 0), (17, 4), (18, 0)] (fun _ => False) (by kernel_rfl) (by kernel_rfl) (fun c a d v w h => by cases d <;> exact h) ?_
          go_wp2_with (first
            | (refine plan_pure (v := _) (by rfl) (by rfl) (by rfl) (by intro _; go_simp; with_reducible rfl) ?_; simp only [List.setIfInBounds_toArray, List.set_cons_zero, List.set_cons_succ]; try go_bits) | (refine plan_read (v := _) (by rfl) (by rfl) (by rfl) (by go_simp; with_reducible rfl) ?_; simp only [List.setIfInBounds_toArray, List.set_cons_zero, List.set_cons_succ]; try go_bits) | (refine plan_readB (v := _) (by rfl) (by rfl) (by rfl) (by intro _ hag; unfold Agree at hag; go_simp; with_reducible rfl) ?_; simp only [List.setIfInBounds_toArray, List.set_cons_zero, List.set_cons_succ]; try go_bits) | (refine plan_skip0 (by rfl) (by rfl) (by rfl) ?_; simp only [List.setIfInBounds_toArray, List.set_cons_zero, List.set_cons_succ]; try go_bits) | (refine plan_skip1 (by rfl) (by rfl) (by rfl) ?_; simp only [List.setIfInBounds_toArray, List.set_cons_zero, List.set_cons_succ]; try go_bits) | (refine plan_skip2 (by rfl) (by rfl) (by rfl) ?_; simp only [List.setIfInBounds_toArray, List.set_cons_zero, List.set_cons_succ]; try go_bits) | (refine plan_skip4 (by rfl) (by rfl) (by rfl) ?_; simp only [List.setIfInBounds_toArray, List.set_cons_zero, List.set_cons_succ]; try go_bits) | (refine plan_any (by rfl) ?_) | (refine plan_keep (by rfl) ?_) | (refine plan_nil ?_) | (with_reducible refine And.intro (by first | assumption | exact Agree.refl _ _ | exact agree_drew _ _ | exact agree_alloc _ (by intro k hk; subst hk; first | omega | (simp; omega))) ?_) | (unfold Act.put; simp only [List.setIfInBounds_toArray, List.set_cons_zero, List.set_cons_succ])
            | (go_at_call 28; refine WITH.out.mono ?_; rintro e w5 ⟨v5, rfl, S5⟩; clear WITH))
          go_roundw
          case rel => exact ⟨j + 1, by go_num, by omega, _, S5, Nat.le_trans (withL_len _ _ _ _) (by omega), withL_ints HIE.out _ _ _⟩
          case measure => (simp [intOf]) <;> omega
      · rw [hh] at HFI hlk
        obtain ⟨hql, _⟩ := hhas.1 hh
        obtain ⟨z0, hz0⟩ := hie (l[pos xy l]) (List.getElem_mem hql)
        obtain ⟨g2, off2, cap2, hv2, hg2, _, f1⟩ := sl_en hsl hql
        cases hv2
        rw [hz0] at f1
        have HLK : Hid (Afx.look xy l = some (.int .i64 z0)) := by
          show _ = _
          rw [hlk, if_pos rfl, List.getElem?_eq_getElem hql, ← hz0]; rfl
        have HPC : Hid (∀ w3, Below wr.heap.size wr w3 → w3.cell? ⟨g2, off2 + pos xy l * 2 + 1, none⟩ = some (.int .i64 z0)) := fun w3 hb => (hb.cell (p := ⟨g2, _, none⟩) hg2).trans f1
        clear hz0 f1 hg2 hlk hhas hst hie hsl hh
        generalize pos xy l = q at *
        by_cases hk : xk = 0
        · subst hk
          go_wp2_with (go_at_call 27; refine HFI.out.mono ?_; rintro e w3 ⟨rfl, hb3⟩; clear HFI; have S3 := (HST.out.below hb3).drew; obtain ⟨c30, c31, c32⟩ := HCELL.out w3 (HST.out.below hb3).low; have pc := HPC.out w3 hb3; have act := put_step w w3.drew tb _ l xy xv S3 (by omega); rw [HLK.out] at act; simp only [Option.getD_some, Option.isSome_some] at act; have ACT := Lib.hid act; clear act)
          refine wp_region_lit_plan [] [(0, 0), (1, 0), (2, 0), (3, 0), (4, 0), (6, 0), (7, 0), (8, 0), (9, 0), (5, 1), (10, 1), (11, 4), (12, 0), (13, 0), (14, 0), (15, 0), (16, 0)] (fun _ => False) (by kernel_rfl) (by kernel_rfl) (fun c a d v w h => by cases d <;> exact h) ?_
          go_wp2_with (first
            | (refine plan_pure (v := _) (by rfl) (by rfl) (by rfl) (by intro _; go_simp; with_reducible rfl) ?_; simp only [List.setIfInBounds_toArray, List.set_cons_zero, List.set_cons_succ]; try go_bits) | (refine plan_read (v := _) (by rfl) (by rfl) (by rfl) (by go_simp; with_reducible rfl) ?_; simp only [List.setIfInBounds_toArray, List.set_cons_zero, List.set_cons_succ]; try go_bits) | (refine plan_readB (v := _) (by rfl) (by rfl) (by rfl) (by intro _ hag; unfold Agree at hag; go_simp; with_reducible rfl) ?_; simp only [List.setIfInBounds_toArray, List.set_cons_zero, List.set_cons_succ]; try go_bits) | (refine plan_skip0 (by rfl) (by rfl) (by rfl) ?_; simp only [List.setIfInBounds_toArray, List.set_cons_zero, List.set_cons_succ]; try go_bits) | (refine plan_skip1 (by rfl) (by rfl) (by rfl) ?_; simp only [List.setIfInBounds_toArray, List.set_cons_zero, List.set_cons_succ]; try go_bits) | (refine plan_skip2 (by rfl) (by rfl) (by rfl) ?_; simp only [List.setIfInBounds_toArray, List.set_cons_zero, List.set_cons_succ]; try go_bits) | (refine plan_skip4 (by rfl) (by rfl) (by rfl) ?_; simp only [List.setIfInBounds_toArray, List.set_cons_zero, List.set_cons_succ]; try go_bits) | (refine plan_any (by rfl) ?_) | (refine plan_keep (by rfl) ?_) | (refine plan_nil ?_) | (with_reducible refine And.intro (by first | assumption | exact Agree.refl _ _ | exact agree_drew _ _ | exact agree_alloc _ (by intro k hk; subst hk; first | omega | (simp; omega))) ?_) | (unfold Act.put; simp only [List.setIfInBounds_toArray, List.set_cons_zero, List.set_cons_succ])
            | (go_at_call 15; refine ACT.out.mono ?_; rintro e w4 ⟨rfl, S4⟩; clear ACT; obtain ⟨c40, c41, c42⟩ := HCELL.out w4 S4.low; have WITH := Lib.hid (with_step w w4.drew tb _ l _ xy xv false S4.drew HRI.out (by omega))))
          refine wp_region_lit_plan [] [(0, 0), (1, 0), (2, 0), (3, 0), (4, 0), (6, 0), (7, 0), (8, 0), (9, 0), (11, 0), (12, 0), (13, 0), (14, 0), (5, 1), (10, 1), (15, 1), (16, 0), (17, 4), (18, 0)] (fun _ => False) (by kernel_rfl) (by kernel_rfl) (fun c a d v w h => by cases d <;> exact h) ?_
          go_wp2_with (first
            | (refine plan_pure (v := _) (by rfl) (by rfl) (by rfl) (by intro _; go_simp; with_reducible rfl) ?_; simp only [List.setIfInBounds_toArray, List.set_cons_zero, List.set_cons_succ]; try go_bits) | (refine plan_read (v := _) (by rfl) (by rfl) (by rfl) (by go_simp; with_reducible rfl) ?_; simp only [List.setIfInBounds_toArray, List.set_cons_zero, List.set_cons_succ]; try go_bits) | (refine plan_readB (v := _) (by rfl) (by rfl) (by rfl) (by intro _ hag; unfold Agree at hag; go_simp; with_reducible rfl) ?_; simp only [List.setIfInBounds_toArray, List.set_cons_zero, List.set_cons_succ]; try go_bits) | (refine plan_skip0 (by rfl) (by rfl) (by rfl) ?_; simp only [List.setIfInBounds_toArray, List.set_cons_zero, List.set_cons_succ]; try go_bits) | (refine plan_skip1 (by rfl) (by rfl) (by rfl) ?_; simp only [List.setIfInBounds_toArray, List.set_cons_zero, List.set_cons_succ]; try go_bits) | (refine plan_skip2 (by rfl) (by rfl) (by rfl) ?_; simp only [List.setIfInBounds_toArray, List.set_cons_zero, List.set_cons_succ]; try go_bits) | (refine plan_skip4 (by rfl) (by rfl) (by rfl) ?_; simp only [List.setIfInBounds_toArray, List.set_cons_zero, List.set_cons_succ]; try go_bits) | (refine plan_any (by rfl) ?_) | (refine plan_keep (by rfl) ?_) | (refine plan_nil ?_) | (with_reducible refine And.intro (by first | assumption | exact Agree.refl _ _ | exact agree_drew _ _ | exact agree_alloc _ (by intro k hk; subst hk; first | omega | (simp; omega))) ?_) | (unfold Act.put; simp only [List.setIfInBounds_toArray, List.set_cons_zero, List.set_cons_succ])
            | (go_at_call 28; refine WITH.out.mono ?_; rintro e w5 ⟨v5, rfl, S5⟩; clear WITH))
          go_roundw
          case rel => exact ⟨j + 1, by go_num, by omega, _, S5, Nat.le_trans (withL_len _ _ _ _) (by omega), withL_ints HIE.out _ _ _⟩
          case measure => (simp [intOf]) <;> omega
        · have hk2 : (xk != 0) = true := bne_iff_ne.2 hk
          have hk3 : (xk == 0) = false := beq_eq_false_iff_ne.2 hk
          go_wp2_with (first
            | (go_at_call 27; refine HFI.out.mono ?_; rintro e w3 ⟨rfl, hb3⟩; clear HFI; have S3 := HST.out.below hb3; obtain ⟨c30, c31, c32⟩ := HCELL.out w3 (HST.out.below hb3).low; have pc := HPC.out w3 hb3; have act := del_step w w3 tb _ l xy xv S3 (by omega); rw [HLK.out] at act; simp only [Option.getD_some, Option.isSome_some] at act; have ACT := Lib.hid act; clear act)
            | (go_at_call 20; refine ACT.out.mono ?_; rintro e w4 ⟨rfl, S4⟩; clear ACT; obtain ⟨c40, c41, c42⟩ := HCELL.out w4 S4.low; have WITH := Lib.hid (with_step w w4.drew tb _ l _ xy xv true S4.drew HRI.out (by omega))))
          refine wp_region_lit_plan [] [(0, 0), (1, 0), (2, 0), (3, 0), (4, 0), (6, 0), (7, 0), (8, 0), (9, 0), (11, 0), (12, 0), (13, 0), (14, 0), (5, 1), (10, 1), (15, 1), (16, 0), (17, 4), (18, 0)] (fun _ => False) (by kernel_rfl) (by kernel_rfl) (fun c a d v w h => by cases d <;> exact h) ?_
          go_wp2_with (first
            | (refine plan_pure (v := _) (by rfl) (by rfl) (by rfl) (by intro _; go_simp; with_reducible rfl) ?_; simp only [List.setIfInBounds_toArray, List.set_cons_zero, List.set_cons_succ]; try go_bits) | (refine plan_read (v := _) (by rfl) (by rfl) (by rfl) (by go_simp; with_reducible rfl) ?_; simp only [List.setIfInBounds_toArray, List.set_cons_zero, List.set_cons_succ]; try go_bits) | (refine plan_readB (v := _) (by rfl) (by rfl) (by rfl) (by intro _ hag; unfold Agree at hag; go_simp; with_reducible rfl) ?_; simp only [List.setIfInBounds_toArray, List.set_cons_zero, List.set_cons_succ]; try go_bits) | (refine plan_skip0 (by rfl) (by rfl) (by rfl) ?_; simp only [List.setIfInBounds_toArray, List.set_cons_zero, List.set_cons_succ]; try go_bits) | (refine plan_skip1 (by rfl) (by rfl) (by rfl) ?_; simp only [List.setIfInBounds_toArray, List.set_cons_zero, List.set_cons_succ]; try go_bits) | (refine plan_skip2 (by rfl) (by rfl) (by rfl) ?_; simp only [List.setIfInBounds_toArray, List.set_cons_zero, List.set_cons_succ]; try go_bits) | (refine plan_skip4 (by rfl) (by rfl) (by rfl) ?_; simp only [List.setIfInBounds_toArray, List.set_cons_zero, List.set_cons_succ]; try go_bits) | (refine plan_any (by rfl) ?_) | (refine plan_keep (by rfl) ?_) | (refine plan_nil ?_) | (with_reducible refine And.intro (by first | assumption | exact Agree.refl _ _ | exact agree_drew _ _ | exact agree_alloc _ (by intro k hk; subst hk; first | omega | (simp; omega))) ?_) | (unfold Act.put; simp only [List.setIfInBounds_toArray, List.set_cons_zero, List.set_cons_succ])
            | (go_at_call 28; refine WITH.out.mono ?_; rintro e w5 ⟨v5, rfl, S5⟩; clear WITH))
          go_roundw
          case rel => exact ⟨j + 1, by go_num, by omega, _, S5, Nat.le_trans (withL_len _ _ _ _) (by omega), withL_ints HIE.out _ _ _⟩
          case measure => (simp [intOf]) <;> omega
    · obtain rfl : j = m := by omega
      have HST := Lib.hid hst
      have HIE := Lib.hid hie
      clear hst hie
      go_wp2
      exact bodyPost_ret (v := .tuple #[ptrV tb, pv, .bool true]) (by simp [results, Try.results9, go_sem]) rfl ⟨_, _, _, rfl, HST.out, by omega, HIE.out⟩
end Go.Proofs.Ytfnndifckgjmjaa
/- Plain: the keys of pages, page by page. -/
namespace Go.Afx
open Go Go.RowKit

mutual
def T.pg : T → List (List Key)
  | .node es ts => es.map En.key :: T.pgL ts
def T.pgL : List T → List (List Key)
  | [] => []
  | t :: ts => t.pg ++ T.pgL ts
end
theorem pg_node (es : List En) (ts : List T) : (T.node es ts).pg = es.map En.key :: T.pgL ts := by rw [T.pg]
theorem pgL_nil : T.pgL [] = [] := by rw [T.pgL]
theorem pgL_cons (t : T) (ts : List T) : T.pgL (t :: ts) = t.pg ++ T.pgL ts := by rw [T.pgL]
theorem pgL_append : ∀ a b : List T, T.pgL (a ++ b) = T.pgL a ++ T.pgL b
  | [], _ => by rw [pgL_nil]; rfl
  | t :: a, b => by rw [List.cons_append, pgL_cons, pgL_cons, pgL_append a b, List.append_assoc]
end Go.Afx
/- Trees told: Pages. -/
namespace Go.Proofs.Ytfnndifckgjmjaa
open Go.RowKit Go.Afx

/-- Lists of strings, as they are told: a slice of slices. -/
def inR (x : Value × List Key) : Res := Res.own 9 1 x.1 x.2.length (strs x.2)
def ouR (v : Value) (vs : List (Value × List Key)) : Res := Res.own 29 1 v vs.length (vs.map Prod.fst)
def outR (v : Value) (vs : List (Value × List Key)) : List Res := ouR v vs :: vs.map inR
theorem elemStrs : Elem Try.prog 47 29 1 24 (.slice none 0 0) :=
  ⟨Try.underlying47, by kernel_rfl, rfl, by omega, by intro u hu; simp [Value.cells] at hu; subst hu; rfl⟩


set_option maxRecDepth 100000 in
set_option maxHeartbeats 4000000 in
theorem pages_in_i (w : World) (b : Nat) (av bv : Value) (es : List En) (ks : List P) (v : Value) (vs : List (Value × List Key)) (hs : Sep w (presi (.node b av es bv ks) ++ outR v vs)) (hel : es.length ≤ 99999) (hkl : ks.length ≤ 100000)
    (hn : vs.length + (P.node b av es bv ks).t.pg.length ≤ 1000000)
    (hc : ∀ kl kc kr, ks = kl ++ kc :: kr → ∀ w2 v2 vs2, Sep w2 (presi kc ++ outR v2 vs2) → vs2.length + kc.t.pg.length ≤ 1000000 → Calls Try.prog 43 #[ptrV kc.blk, v2] w2 fun e w' => ∃ v' vs', e = .returned v' ∧ vs'.map Prod.snd = kc.t.pg ∧ Trk w2 (feet (presi kc ++ outR v2 vs2)) w' (presi kc ++ outR v' (vs2 ++ vs'))) :
    Calls Try.prog 43 #[ptrV b, v] w fun e w' => ∃ v' vs', e = .returned v' ∧ vs'.map Prod.snd = (P.node b av es bv ks).t.pg ∧ Trk w (feet (presi (.node b av es bv ks) ++ outR v vs)) w' (presi (.node b av es bv ks) ++ outR v' (vs ++ vs')) := by
  have T0 := Trk.start hs
  generalize hF : feet (presi (.node b av es bv ks) ++ outR v vs) = F at *
  have T0 : Trk w F w (rBi b av bv :: rAi av es :: rKi bv ks :: ouR v vs :: (presLi ks ++ vs.map inR)) := T0.perm (perm_of_cnt fun a => by simp only [cnt_append, cnt_cons, cnt_nil, presi, presLi, rBi, rAi, rKi, P.resL_append, P.resL_cons, P.resL_nil, P.res_node, outR, List.map_append, List.map_cons, List.map_nil] <;> omega)
  have kb0 : Blk w b 66 [av, bv] := T0.blk (by simp only [List.mem_cons, true_or, or_true])
  have oa : Own w 87 2 av es.length (enC es) := T0.own (by simp only [List.mem_cons, true_or, or_true])
  have ok : Own w 60 1 bv ks.length (ptrs ks) := T0.own (by simp only [List.mem_cons, true_or, or_true])
  have oo : Own w 29 1 v vs.length (vs.map Prod.fst) := T0.sep.all (ouR v vs) (by simp only [List.mem_cons, true_or, or_true])
  obtain ⟨pa, ca, hav, hca1, hca2⟩ := own_form_Ei oa
  obtain ⟨pk, ck, hbv, hck1, hck2⟩ := own_form_Pi ok
  obtain ⟨po, co, rfl, hco1, hco2⟩ := (oo.sl (B := fun _ => True) (fun _ _ => trivial)).form
  obtain ⟨x0, x1⟩ := pg_cells kb0
  rw [hav] at x0
  have hbl := kb0.lt
  have HT0 := Lib.hid T0
  have HOA := Lib.hid oa
  have HAV := Lib.hid hav
  have HBV := Lib.hid hbv
  have hvl : vs.length ≤ 1000000 := by omega
  have HPG : Hid ((P.node b av es bv ks).t.pg = es.map En.key :: T.pgL (ks.map P.t)) := by show _ = _; rw [P.t_node, pg_node]
  have HONE : Hid (∀ e ∈ es, e.val.oneCell' = true) := fun e he => by
    obtain ⟨i, hi, rfl⟩ := List.mem_iff_getElem.1 he
    exact oa.2.1 _ (List.mem_of_getElem? (enC_at es i hi).2)
  unfold ptrV
  clear T0 kb0 oa ok oo hs hF hav hbv
  go_enter Try.func43, Try.ntmps43
  go_wp2
  go_loopw [5, 16] (fun l i wr => ∃ k : Nat, i = .int .i64 k ∧ k ≤ es.length ∧ Own wr 9 1 l k (strs ((es.take k).map En.key)) ∧ (∀ q, l.ownBlock = some q → w.heap.size ≤ q) ∧ Below w.heap.size w wr) (fun _ i _ => es.length - (intOf i).toNat)
  case atStart => exact ⟨0, rfl, Nat.zero_le _, Own.nil _ _ _, by simp [Value.ownBlock], Below.refl _ _⟩
  case round =>
    obtain ⟨k, rfl, hk, hown, hfr, hbw⟩ := hrel
    obtain ⟨pl, cl, rfl, hcl1, hcl2⟩ := (hown.sl (B := fun _ => True) (fun _ _ => trivial)).form
    have HOWN := Lib.hid hown
    have HFR := Lib.hid hfr
    have HBW := Lib.hid hbw
    by_cases hka : k < es.length
    · obtain ⟨g, off, cap, hav2, hg, e0, e1⟩ := sl_en ((HOA.out.below hbw).sl (B := fun _ => True) (fun _ _ => trivial)) hka
      rw [HAV.out] at hav2
      cases hav2
      have hone := HONE.out es[k] (List.getElem_mem hka)
      have HX : Hid (strs ((es.take (k + 1)).map En.key) = strs ((es.take k).map En.key) ++ [.string (kb es[k].key)]) := by
        show _ = _
        rw [← List.take_append_getElem hka, List.map_append, strs_append]; rfl
      generalize es[k].key = ke at *
      generalize es[k].val = ve at *
      have hal5 : Below wr.heap.size wr ((wr.alloc (.cells #[.string (kb ke), ve] 87)).alloc (.cells #[.string (kb ke)] 9)) := ((Below.refl _ _).alloc (Nat.le_refl _) _).alloc (by simp) _
      have ho1 := HOWN.out.below hal5
      have hxb := Blk.new (wr.alloc (.cells #[.string (kb ke), ve] 87)) 9 [.string (kb ke)]
      have hsz : (wr.alloc (.cells #[.string (kb ke), ve] 87)).heap.size = wr.heap.size + 1 := by simp
      rw [hsz] at hxb
      have hs1 : Sl ((wr.alloc (.cells #[.string (kb ke), ve] 87)).alloc (.cells #[.string (kb ke)] 9)) (fun _ => True) 1 (.slice (some ⟨wr.heap.size + 1, 0, none⟩) 1 1) 1 [.string (kb ke)] :=
        ⟨rfl, Ones.cons rfl Ones.nil, .inr ⟨wr.heap.size + 1, 0, 1, rfl, Nat.le_refl _, by simp [maxLen], trivial, hxb.lt, fun j hj => by rw [Nat.zero_add]; exact hxb.cell j⟩⟩
      have HX5 := Lib.hid hal5
      clear hal5 hxb hown hfr hbw hsz
      go_wp2_with (at_builtin; refine wpList_app rfl _ _ rfl elemKey (by rfl) ho1 (by rfl) hs1 (by unfold maxLen; omega) (by omega) ?_; intro v1 w7 g1 g2 g3 g4 g5; clear ho1 hs1; have G1 := Lib.hid g1; have G2 := Lib.hid g2; have G3 := Lib.hid g3; clear g1 g2 g3 g4 g5)
      go_roundw
      case rel =>
        refine ⟨k + 1, by go_num, by omega, by rw [HX.out]; exact G1.out, fun q hq => ?_, ?_⟩
        · rcases G3.out with h | h
          · rw [h] at hq; exact HFR.out q hq
          · rw [h] at hq
            have h1 := Option.some.inj hq
            have h2 := HX5.out.size
            have h3 := HBW.out.size
            omega
        · exact (HBW.out.trans (HX5.out.mono HBW.out.size)).trans (G2.out.below (by have := HX5.out.size; have := HBW.out.size; omega) (fun q hq => HFR.out q hq))
      case measure => (simp [intOf]) <;> omega
    · obtain rfl : k = es.length := by omega
      rw [List.take_length] at hown
      obtain ⟨lv, hlv⟩ : ∃ lv, lv = Value.slice pl es.length cl := ⟨_, rfl⟩
      have hownl : Own wr 9 1 lv es.length (strs (es.map En.key)) := by rw [hlv]; exact hown
      have T1 := HT0.out.new (r := inR (lv, es.map En.key)) (by show Own _ _ _ _ _ _; rw [List.length_map]; exact hownl) (show lv.ownBlock.toList.Nodup from ownBlock_nodup _) (fun q hq => by
        have h1 : lv.ownBlock = some q := by simpa [inR, Res.own] using hq
        rw [hlv] at h1
        exact hfr q h1) hbw
      obtain ⟨v, hv⟩ : ∃ v, v = Value.slice po vs.length co := ⟨_, rfl⟩
      rw [← hv] at T1
      have b3 : Below wr.heap.size wr (wr.alloc (.cells #[lv] 29)) := (Below.refl _ _).alloc (Nat.le_refl _) _
      have T2 : Trk w F (wr.alloc (.cells #[lv] 29)) (ouR v vs :: rBi b av bv :: rAi av es :: rKi bv ks :: (presLi ks ++ (vs.map inR ++ [inR (lv, es.map En.key)]))) := (T1.below b3).perm (perm_of_cnt fun a => by simp only [cnt_append, cnt_cons, cnt_nil, presi, presLi, rBi, rAi, rKi, P.resL_append, P.resL_cons, P.resL_nil, P.res_node, outR, List.map_append, List.map_cons, List.map_nil] <;> omega)
      have oo3 : Own (wr.alloc (.cells #[lv] 29)) 29 1 v vs.length (vs.map Prod.fst) := T2.sep.all (ouR v vs) (by simp only [List.mem_cons, true_or, or_true])
      have hxb := Blk.new wr 29 [lv]
      have hs1 : Sl (wr.alloc (.cells #[lv] 29)) (fun _ => True) 1 (.slice (some ⟨wr.heap.size, 0, none⟩) 1 1) 1 [lv] :=
        ⟨rfl, Ones.cons (by rw [hlv]; rfl) Ones.nil, .inr ⟨wr.heap.size, 0, 1, rfl, Nat.le_refl _, by simp [maxLen], trivial, hxb.lt, fun j hj => by rw [Nat.zero_add]; exact hxb.cell j⟩⟩
      have HAFT : Hid (∀ w', Only (fun k => (Value.slice po vs.length co).ownBlock = some k) (wr.alloc (.cells #[Value.slice pl es.length cl] 29)) w' → Blk w' b 66 [av, bv]) := fun w' ho => by
        rw [← hv, ← hlv] at ho
        exact T2.keepBlk ho
      have HT2 := Lib.hid T2
      have HV := Lib.hid hv
      have HLV := Lib.hid hlv
      rw [hlv] at hs1 oo3
      rw [hv] at oo3
      clear T1 T2 hxb hown hownl hfr hbw hv hlv b3
      go_wp2_with (at_builtin; refine wpList_app rfl _ _ rfl elemStrs (by rfl) oo3 (by rfl) hs1 (by unfold maxLen; omega) (by omega) ?_; intro v1 w4 g1 g2 g3 g4 g5; clear oo3 hs1; have kb4 := HAFT.out w4 g2; obtain ⟨u0, u1⟩ := pg_cells kb4; rw [HBV.out] at u1; have G1 := Lib.hid g1; have G2 := Lib.hid g2; have G3 := Lib.hid g3; clear g1 g2 g3 g4 g5 kb4)
      have T3 : Trk w F w4 (presi (.node b av es bv ks) ++ outR v1 (vs ++ [(lv, es.map En.key)])) := by
        have h1 : Own w4 29 1 v1 (vs ++ [(lv, es.map En.key)]).length ((vs ++ [(lv, es.map En.key)]).map Prod.fst) := by
          rw [List.length_append, List.map_append]
          have := G1.out
          rw [← HLV.out] at this
          exact this
        have h2 := HT2.out.ownTo (e := 29) (sz := 1) h1 (by rw [HV.out, HLV.out]; exact G2.out) (fun q hq => by
          rw [HV.out, HLV.out]
          rcases G3.out with h | h
          · left; rw [← h]; exact hq
          · right
            have h5 := h.symm.trans hq
            exact Nat.le_of_eq (Option.some.inj h5))
        have h3 : ouR v1 (vs ++ [(lv, es.map En.key)]) = Res.own 29 1 v1 (vs ++ [(lv, es.map En.key)]).length ((vs ++ [(lv, es.map En.key)]).map Prod.fst) := rfl
        rw [← h3] at h2
        exact h2.perm (perm_of_cnt fun a => by simp only [cnt_append, cnt_cons, cnt_nil, presi, presLi, rBi, rAi, rKi, P.resL_append, P.resL_cons, P.resL_nil, P.res_node, outR, List.map_append, List.map_cons, List.map_nil] <;> omega)
      have HT3 := Lib.hid T3
      clear T3
      go_loopw [1, 35] (fun o j wr2 => ∃ (k : Nat) (v2 : Value) (vs2 : List (Value × List Key)), o = v2 ∧ j = .int .i64 k ∧ k ≤ ks.length ∧ vs2.map Prod.snd = es.map En.key :: T.pgL ((ks.take k).map P.t) ∧ Trk w F wr2 (presi (.node b av es bv ks) ++ outR v2 (vs ++ vs2))) (fun _ j _ => ks.length - (intOf j).toNat)
      case atStart => exact ⟨0, v1, [(lv, es.map En.key)], rfl, rfl, Nat.zero_le _, by simp [pgL_nil], HT3.out⟩
      case round =>
        obtain ⟨k, v2, vs2, hv2e, rfl, hk, hvs2, hT⟩ := hrel
        have hT2 : Trk w F wr (ouR v2 (vs ++ vs2) :: rBi b av bv :: rAi av es :: rKi bv ks :: (presLi ks ++ (vs ++ vs2).map inR)) := hT.perm (perm_of_cnt fun a => by simp only [cnt_append, cnt_cons, cnt_nil, presi, presLi, rBi, rAi, rKi, P.resL_append, P.resL_cons, P.resL_nil, P.res_node, outR, List.map_append, List.map_cons, List.map_nil] <;> omega)
        have oo : Own wr 29 1 v2 (vs ++ vs2).length ((vs ++ vs2).map Prod.fst) := hT2.sep.all (ouR v2 (vs ++ vs2)) List.mem_cons_self
        have okr : Own wr 60 1 bv ks.length (ptrs ks) := hT2.own (by simp only [List.mem_cons, true_or, or_true])
        obtain ⟨p2, c2, hv2, _, _⟩ := (oo.sl (B := fun _ => True) (fun _ _ => trivial)).form
        have hpgl : (T.pgL (ks.map P.t)).length + 1 + vs.length ≤ 1000000 := by
          have h1 := HPG.out
          rw [h1] at hn
          simp at hn
          omega
        have hv2l : vs2.length = 1 + (T.pgL ((ks.take k).map P.t)).length := by
          have h1 := congrArg List.length hvs2
          rw [List.length_map, List.length_cons] at h1
          omega
        obtain ⟨nv, hnv⟩ : ∃ nv, (vs ++ vs2).length = nv := ⟨_, rfl⟩
        rw [hnv] at hv2
        have hnv2 : nv = vs.length + vs2.length := by rw [← hnv, List.length_append]
        by_cases hka : k < ks.length
        · have hks : ks = ks.take k ++ ks[k] :: ks.drop (k + 1) := by rw [← List.drop_eq_getElem_cons hka, List.take_append_drop]
          obtain ⟨g, off, cap, hbv2, hg, p0⟩ := sl_ptr (okr.sl (B := fun _ => True) (fun _ _ => trivial)) hka
          rw [HBV.out] at hbv2
          cases hbv2
          have hpl : (T.pgL (ks.map P.t)).length = (T.pgL ((ks.take k).map P.t)).length + ((ks[k]).t.pg.length + (T.pgL ((ks.drop (k + 1)).map P.t)).length) := by
            conv => lhs; rw [hks]
            rw [List.map_append, List.map_cons, pgL_append, pgL_cons]
            simp
          have htk : (ks.take (k + 1)).map P.t = (ks.take k).map P.t ++ [(ks[k]).t] := by
            rw [← List.take_append_getElem hka, List.map_append]; rfl
          have hpre : presLi ks = presLi (ks.take k) ++ (presi ks[k] ++ presLi (ks.drop (k + 1))) := by
            conv => lhs; rw [hks]
            rw [presLi, P.resL_append, P.resL_cons]
          have hp5 : (presi (.node b av es bv ks) ++ outR v2 (vs ++ vs2)).Perm ((presi ks[k] ++ outR v2 (vs ++ vs2)) ++ (rBi b av bv :: rAi av es :: rKi bv ks :: (presLi (ks.take k) ++ presLi (ks.drop (k + 1))))) := perm_of_cnt fun a => by
            rw [pres_i, hpre]
            simp only [cnt_append, cnt_cons]; omega
          have hcc := hc (ks.take k) ks[k] (ks.drop (k + 1)) hks wr v2 (vs ++ vs2) (hT.sepOf hp5) (by rw [List.length_append]; omega)
          have HC := Lib.hid hcc
          have HT := Lib.hid hT
          have HP5 := Lib.hid hp5
          have HVS := Lib.hid hvs2
          have HTK := Lib.hid htk
          have HPRE := Lib.hid hpre
          generalize ks[k] = kc at *
          unfold ptrV at HC p0
          subst hv2e
          subst hv2
          clear hcc hT hT2 oo okr hp5 hks hpl htk hpre hv2l hvs2 hpgl hnv hnv2
          go_wp2_with fail
          refine HC.out.mono ?_
          rintro e w5 ⟨v3, vs3, rfl, hvs3, hT5⟩
          have T6 := HT.out.use HP5.out hT5
          have T7 : Trk w F w5 (presi (.node b av es bv ks) ++ outR v3 (vs ++ (vs2 ++ vs3))) := T6.perm (perm_of_cnt fun a => by
            rw [pres_i, HPRE.out, List.append_assoc vs vs2 vs3]
            simp only [cnt_append, cnt_cons]; omega)
          have HT7 := Lib.hid T7
          have HV3 := Lib.hid hvs3
          clear hT5 T6 T7 HC HT HP5 hvs3
          go_wp2_with fail
          go_roundw
          case rel => exact ⟨k + 1, v3, vs2 ++ vs3, rfl, by go_num, by omega, by rw [List.map_append, HVS.out, HV3.out, HTK.out, pgL_append, pgL_cons, pgL_nil, List.append_nil]; rfl, HT7.out⟩
          case measure => (simp [intOf]) <;> omega
        · obtain rfl : k = ks.length := by omega
          rw [List.take_length] at hvs2
          have HVS := Lib.hid hvs2
          have HT := Lib.hid hT
          subst hv2e
          subst hv2
          clear hT hT2 oo okr hvs2 hv2l hpgl hnv hnv2
          go_wp2
          go_ret
          exact ⟨_, vs2, rfl, by rw [HVS.out, HPG.out], HT.out⟩

theorem pages_any_i : ∀ (d m : Nat) (w : World) (p : P) (v : Value) (vs : List (Value × List Key)), Fat m d p.t → p.t.flat.length ≤ 99999 → vs.length + p.t.pg.length ≤ 1000000 → Sep w (presi p ++ outR v vs) →
    Calls Try.prog 43 #[ptrV p.blk, v] w fun e w' => ∃ v' vs', e = .returned v' ∧ vs'.map Prod.snd = p.t.pg ∧ Trk w (feet (presi p ++ outR v vs)) w' (presi p ++ outR v' (vs ++ vs')) := by
  intro d
  induction d with
  | zero =>
    intro m w p v vs hf hfl hn hs
    obtain ⟨b, av, es, bv, ks, rfl⟩ := P.eta p
    rw [P.t_node] at hf hfl
    have hk0 : ks = [] := by simpa using hf.2
    subst hk0
    exact pages_in_i w b av bv es [] v vs hs (Nat.le_trans (es_flat_len (.node es _)) hfl) (by simp) hn (fun kl kc kr h => by simp at h)
  | succ d ih =>
    intro m w p v vs hf hfl hn hs
    obtain ⟨b, av, es, bv, ks, rfl⟩ := P.eta p
    rw [P.t_node] at hf hfl
    have hel := Nat.le_trans (es_flat_len (.node es _)) hfl
    have hel2 : es.length ≤ 99999 := hel
    have hkl : (ks.map P.t).length ≤ es.length + 1 := Nat.le_of_eq hf.2.1
    refine pages_in_i w b av bv es ks v vs hs hel2 (by rw [List.length_map] at hkl; omega) hn (fun kl kc kr h w2 v2 vs2 hs2 hn2 => ?_)
    have hkm : kc ∈ ks := by rw [h]; simp
    exact ih 2 w2 kc v2 vs2 (hf.2.2 _ (List.mem_map_of_mem hkm)) (Nat.le_trans (kid_flat_len hkl (List.mem_map_of_mem hkm)) hfl) hn2 hs2
set_option maxRecDepth 100000 in
set_option maxHeartbeats 1000000 in
theorem tpages_i (w : World) (tb : Nat) (p : P) (d n : Nat) (hs : Sep w (trsi tb p n)) (hg : Afx.Good d p.t) (hn : n = p.t.flat.length) (hl : n ≤ 99999) (hn0 : 0 < n) (hpg : p.t.pg.length ≤ 1000000) :
    Calls Try.prog 25 #[ptrV tb] w fun e w' => ∃ v vs, e = .returned v ∧ vs.map Prod.snd = p.t.pg ∧ Trk w (feet (trsi tb p n)) w' (trsi tb p n ++ outR v vs) := by
  have T0 := Trk.start hs
  generalize hF : feet (trsi tb p n) = F at *
  have kt0 : Blk w tb 68 [ptrV p.blk, .int .i64 (n : Int)] := T0.blk List.mem_cons_self
  have T1 := T0.new (r := ouR (.slice none 0 0) []) (Own.nil _ _ _) (by simp [ouR, Res.own, Value.ownBlock]) (by simp [ouR, Res.own, Value.ownBlock]) (Below.refl _ _)
  have hp1 : (ouR (.slice none 0 0) [] :: trsi tb p n).Perm ((presi p ++ outR (.slice none 0 0) []) ++ [rTi tb p n]) := perm_of_cnt fun a => by simp only [trsi, outR, List.map_nil, cnt_append, cnt_cons, cnt_nil]; omega
  have HC := Lib.hid (pages_any_i d (min 1 d) w p (.slice none 0 0) [] hg.fat (by omega) (by simpa using hpg) (T1.sepOf hp1))
  have HLEN := Lib.hid (len_i w tb p n kt0)
  obtain ⟨c0, c1⟩ := pg_cells kt0
  have HT1 := Lib.hid T1
  have HP1 := Lib.hid hp1
  have hni : ¬ ((n : Int) = 0) := by omega
  have hnn : ((n : Int) == 0) = false := by rw [beq_eq_false_iff_ne]; omega
  unfold ptrV at c0 HC HLEN ⊢
  clear T0 T1 kt0 hp1 hs hF hg hn hpg
  go_enter Try.func25, Try.ntmps25
  go_wp2_with fail
  refine HLEN.out.mono ?_
  rintro e wq ⟨rfl, hq⟩
  subst hq
  go_wp2_with fail
  refine HC.out.mono ?_
  rintro e w2 ⟨v, vs, rfl, hvs, hT⟩
  have T2 : Trk _ F w2 (trsi tb p n ++ outR v vs) := (HT1.out.use HP1.out hT).perm (perm_of_cnt fun a => by simp only [trsi, List.nil_append, cnt_append, cnt_cons, cnt_nil]; omega)
  have HT2 := Lib.hid T2
  have HVS := Lib.hid hvs
  clear hT T2 hvs
  go_wp2
  go_ret
  exact ⟨v, vs, rfl, HVS.out, HT2.out⟩

end Go.Proofs.Ytfnndifckgjmjaa
/- The tree's laws: awake, plain: six keys put. -/
namespace Go.Afx
open Go Go.RowKit
/-- The pages after so many keys: a, b, c, .. -/
def wake : Nat → Nat × T
  | 0 => (0, .node [] [])
  | j + 1 => putTop [UInt8.ofNat (97 + j)] (.int .i64 j) (wake j).1 (wake j).2
theorem wake_good : ∀ j, Good (wake j).1 (wake j).2
  | 0 => Good.new
  | j + 1 => (putTop_good (wake_good j)).1
theorem wake_flat : ∀ j, (wake (j + 1)).2.flat = ins [UInt8.ofNat (97 + j)] (.int .i64 j) (wake j).2.flat := fun j => (putTop_good (wake_good j)).2
theorem wake_keys : (wake 6).2.pg = [[[99]], [[97], [98]], [[100], [101], [102]]] := by kernel_rfl
theorem wake_look : ∀ j, j < 6 → (look [UInt8.ofNat (97 + j)] (wake j).2.flat).isSome = false ∧ (wake j).2.flat.length = j := by
  intro j hj
  have h : j = 0 ∨ j = 1 ∨ j = 2 ∨ j = 3 ∨ j = 4 ∨ j = 5 := by omega
  rcases h with rfl | rfl | rfl | rfl | rfl | rfl <;> exact ⟨by kernel_rfl, by kernel_rfl⟩
theorem wake_next : abv [98] false (wake 6).2.flat = some ⟨[99], .int .i64 2⟩ := by kernel_rfl
theorem wake_len : (wake 6).2.flat.length = 6 := by kernel_rfl
end Go.Afx
/- The tree's laws: awake: six keys put, the pages told. -/
namespace Go.Proofs.Ytfnndifckgjmjaa
open Go.RowKit Go.Afx

theorem cvKey (w : World) (x : Nat) (hx : x < 256) : (convert 55 9 (.slice (some ⟨w.heap.size, 0, none⟩) 1 1)).run Try.prog (w.alloc (.cells #[.int .u8 (x : Int)] 5)) = .ok (.string (kb [UInt8.ofNat x])) (w.alloc (.cells #[.int .u8 (x : Int)] 5)) :=
  run_convert_bytes_back (P := Try.prog) (w.alloc (.cells #[.int .u8 (x : Int)] 5)) 55 9 5 ⟨w.heap.size, 0, none⟩ 1 [UInt8.ofNat x] Try.underlying55 Try.underlying5 Try.underlying9 (fun j hj => by
    obtain rfl : j = 0 := by simpa using hj
    have h1 : (⟨w.heap.size, 0, none⟩ : Addr).add 0 = ⟨w.heap.size, 0, none⟩ := Addr.add_lit _ _ _
    rw [h1]
    have h2 := (Blk.new w 5 [.int .u8 (x : Int)]).cell 0
    rw [show (w.alloc (.cells #[.int .u8 (x : Int)] 5)) = (w.alloc (.cells [.int .u8 (x : Int)].toArray 5)) from rfl, h2]
    have h3 : (UInt8.ofNat x).toNat = x := by rw [UInt8.toNat_ofNat']; omega
    simp only [List.getElem?_cons_zero, List.getElem_cons_zero, h3])
/-- So many keys are put. -/
def Woke (w : World) (tb j : Nat) (wr : World) : Prop := ∃ p, Trk w [] wr (trsi tb p j) ∧ p.t = (wake j).2
theorem Woke.below {w wr w' : World} {tb j : Nat} (h : Woke w tb j wr) (hb : Below wr.heap.size wr w') : Woke w tb j w' := by
  obtain ⟨p, T, hp⟩ := h
  exact ⟨p, T.below hb, hp⟩
theorem Woke.put {w wr : World} {tb j : Nat} (h : Woke w tb j wr) (hj : j < 6) :
    Calls Try.prog 15 #[ptrV tb, .string (kb [UInt8.ofNat (97 + j)]), .int .i64 j] wr fun e w' => (∃ v, e = .returned v) ∧ Woke w tb (j + 1) w' := by
  obtain ⟨p, T, hp⟩ := h
  have h1 := wake_look j hj
  have h2 : Afx.Good (wake j).1 p.t := by rw [hp]; exact wake_good j
  refine (tput_i wr tb p (wake j).1 j _ (j : Int) T.sep h2 (by rw [hp]; exact h1.2.symm) (by omega)).mono ?_
  rintro e w' ⟨he, p', hp', T2⟩
  rw [hp, h1.1, if_neg (by simp)] at T2
  refine ⟨⟨_, he⟩, p', ?_, by rw [hp', hp]; rfl⟩
  have T3 := Trk.call (rest := []) (by rw [List.append_nil]; exact T) T2
  rw [List.append_nil] at T3
  exact T3
theorem Woke.low {w wr : World} {tb j : Nat} (h : Woke w tb j wr) : Below w.heap.size w wr := by
  obtain ⟨p, T, _⟩ := h
  exact T.only.below (Nat.le_refl _) (fun k hk => by simp at hk)
theorem three {vs : List (Value × List Key)} {a b c : List Key} (h : vs.map Prod.snd = [a, b, c]) : ∃ v0 v1 v2, vs = [(v0, a), (v1, b), (v2, c)] := by
  match vs, h with
  | [(v0, _), (v1, _), (v2, _)], h =>
    simp only [List.map_cons, List.map_nil, List.cons.injEq, and_true] at h
    obtain ⟨rfl, rfl, rfl⟩ := h
    exact ⟨v0, v1, v2, rfl⟩
/-- The three pages as they are told. -/
structure Told3 (g off : Nat) (v0 v1 v2 : Value) (w : World) : Prop where
  c0 : w.cell? ⟨g, off, none⟩ = some v0
  c1 : w.cell? ⟨g, off + 1, none⟩ = some v1
  c2 : w.cell? ⟨g, off + 2, none⟩ = some v2
  s0 : Sl w (fun _ => True) 1 v0 1 (strs [[99]])
  s1 : Sl w (fun _ => True) 1 v1 2 (strs [[97], [98]])
  s2 : Sl w (fun _ => True) 1 v2 3 (strs [[100], [101], [102]])
theorem woke_pages {w wr : World} {tb : Nat} (h : Woke w tb 6 wr) :
    Calls Try.prog 25 #[ptrV tb] wr fun e w' => ∃ g off cap v0 v1 v2, e = .returned (.slice (some ⟨g, off, none⟩) 3 cap) ∧ Below w.heap.size w w' ∧ (∀ w2, Below w'.heap.size w' w2 → Told3 g off v0 v1 v2 w2) ∧
      ∀ w2, Below w'.heap.size w' w2 → Calls Try.prog 26 #[ptrV tb, .string (kb [98]), .bool false] w2 fun e w3 => e = .returned (.tuple #[.string (kb [99]), .int .i64 2, .bool true]) ∧ Below w'.heap.size w' w3 := by
  have hlow := h.low
  obtain ⟨p, T, hp⟩ := h
  have hg : Afx.Good (wake 6).1 p.t := by rw [hp]; exact wake_good 6
  have hn : 6 = p.t.flat.length := by rw [hp]; exact wake_len.symm
  refine (tpages_i wr tb p _ 6 T.sep hg hn (by omega) (by omega) (by rw [hp, wake_keys]; simp)).mono ?_
  rintro e w' ⟨v, vs, rfl, hvs, T2⟩
  rw [hp, wake_keys] at hvs
  obtain ⟨v0, v1, v2, rfl⟩ := three hvs
  have T3 := Trk.call (rest := []) (by rw [List.append_nil]; exact T) T2
  rw [List.append_nil] at T3
  have hb : Below w.heap.size w w' := T3.only.below (Nat.le_refl _) (fun k hk => by simp at hk)
  have hsr := T2.sep.right
  have ho : Own w' 29 1 v 3 [v0, v1, v2] := hsr.all (ouR v [(v0, [[99]]), (v1, [[97], [98]]), (v2, [[100], [101], [102]])]) (by simp [outR])
  have o0 : Own w' 9 1 v0 1 (strs [[99]]) := hsr.all (inR (v0, [[99]])) (by simp [outR])
  have o1 : Own w' 9 1 v1 2 (strs [[97], [98]]) := hsr.all (inR (v1, [[97], [98]])) (by simp [outR])
  have o2 : Own w' 9 1 v2 3 (strs [[100], [101], [102]]) := hsr.all (inR (v2, [[100], [101], [102]])) (by simp [outR])
  obtain ⟨g, off, cap, rfl, _, _, _, hlt, hc⟩ := (ho.sl (B := fun _ => True) (fun _ _ => trivial)).place (by omega)
  have e0 := hc 0 (by simp)
  have e1 := hc 1 (by simp)
  have e2 := hc 2 (by simp)
  refine ⟨g, off, cap, v0, v1, v2, rfl, hb, fun w2 hb2 => ⟨?_, ?_, ?_, ?_, ?_, ?_⟩, fun w2 hb2 => ?_⟩
  · exact (hb2.cell (p := ⟨g, off, none⟩) hlt).trans e0
  · exact (hb2.cell (p := ⟨g, off + 1, none⟩) hlt).trans e1
  · exact (hb2.cell (p := ⟨g, off + 2, none⟩) hlt).trans e2
  · exact (o0.sl (fun _ _ => trivial)).below hb2
  · exact (o1.sl (fun _ _ => trivial)).below hb2
  · exact (o2.sl (fun _ _ => trivial)).below hb2
  · have h1 := next_i w2 tb p _ 6 [98] false (T2.sep.left.below hb2) hg hn (by omega)
    rw [hp, wake_next] at h1
    exact h1.mono fun e w3 h2 => ⟨h2.1, hb2.trans (h2.2.mono hb2.size)⟩
theorem sl_lits (w : World) (l : List Key) (hl : l.length ≤ maxLen) : Sl (w.alloc (.cells (strs l).toArray 9)) (fun _ => True) 1 (.slice (some ⟨w.heap.size, 0, none⟩) l.length l.length) l.length (strs l) := by
  have hxb := Blk.new w 9 (strs l)
  have h1 : Ones (strs l) := fun u hu => by
    obtain ⟨k, _, rfl⟩ := List.mem_map.1 hu
    rfl
  exact ⟨by rw [strs_length, Nat.mul_one], h1, .inr ⟨w.heap.size, 0, l.length, rfl, Nat.le_refl _, hl, trivial, hxb.lt, fun j hj => by rw [Nat.zero_add]; exact hxb.cell j⟩⟩
theorem same_true (w : World) (B B' : Nat → Prop) (va vb : Value) (x : List Key) (n : Nat) (hn : x.length = n) (ha : Sl w B 1 va n (strs x)) (hb : Sl w B' 1 vb n (strs x)) :
    Calls Try.prog 10 #[va, vb] w fun e w' => e = .returned (.bool true) ∧ Below w.heap.size w w' := by
  subst hn
  refine (same_keys w B B' va vb x x ha hb).mono ?_
  rintro e w' ⟨rfl, h⟩
  exact ⟨by simp, h⟩
set_option maxRecDepth 100000 in
set_option maxHeartbeats 1000000 in
theorem awake_any (w : World) : Calls Try.prog 8 #[] w fun e w' => e = .returned (.bool true) ∧ Below w.heap.size w w' := by
  go_enter Try.func8, Try.ntmps8
  go_wp2_with (go_at_call 13; refine (new_i w).mono ?_; rintro e w1 ⟨tb, q, rfl, hq, T⟩)
  have HW : Hid (Woke w tb 0 w1) := ⟨q, T, hq⟩
  clear T hq
  go_loopw [2] (fun i wr => ∃ j : Nat, i = .int .i64 j ∧ j ≤ 6 ∧ Woke w tb j wr) (fun i _ => 6 - (intOf i).toNat)
  case atStart => exact ⟨0, rfl, Nat.zero_le _, HW.out⟩
  case round =>
    obtain ⟨j, rfl, hj, hw⟩ := hrel
    by_cases hj6 : j < 6
    · have hd : j = 0 ∨ j = 1 ∨ j = 2 ∨ j = 3 ∨ j = 4 ∨ j = 5 := by omega
      have hw2 := hw.below ((Below.refl wr.heap.size wr).alloc (Nat.le_refl _) (.cells #[.int .u8 ((97 + j : Nat) : Int)] 5))
      have PUT := Lib.hid (hw2.put hj6)
      have cv := cvKey wr (97 + j) (by omega)
      clear hw hw2
      rcases hd with rfl | rfl | rfl | rfl | rfl | rfl
      · simp only [show ((97 + 0 : Nat) : Int) = 97 from rfl, show ((97 + 1 : Nat) : Int) = 98 from rfl, show ((97 + 2 : Nat) : Int) = 99 from rfl, show ((97 + 3 : Nat) : Int) = 100 from rfl, show ((97 + 4 : Nat) : Int) = 101 from rfl, show ((97 + 5 : Nat) : Int) = 102 from rfl] at cv PUT
        go_wp2_with (go_at_call 15; refine PUT.out.mono ?_; rintro e w4 ⟨⟨v4, rfl⟩, hw4⟩)
        go_roundw
        case rel => exact ⟨_, by first | rfl | go_num, by decide, hw4⟩
        case measure => simp [intOf]
      · simp only [show ((97 + 0 : Nat) : Int) = 97 from rfl, show ((97 + 1 : Nat) : Int) = 98 from rfl, show ((97 + 2 : Nat) : Int) = 99 from rfl, show ((97 + 3 : Nat) : Int) = 100 from rfl, show ((97 + 4 : Nat) : Int) = 101 from rfl, show ((97 + 5 : Nat) : Int) = 102 from rfl] at cv PUT
        go_wp2_with (go_at_call 15; refine PUT.out.mono ?_; rintro e w4 ⟨⟨v4, rfl⟩, hw4⟩)
        go_roundw
        case rel => exact ⟨_, by first | rfl | go_num, by decide, hw4⟩
        case measure => simp [intOf]
      · simp only [show ((97 + 0 : Nat) : Int) = 97 from rfl, show ((97 + 1 : Nat) : Int) = 98 from rfl, show ((97 + 2 : Nat) : Int) = 99 from rfl, show ((97 + 3 : Nat) : Int) = 100 from rfl, show ((97 + 4 : Nat) : Int) = 101 from rfl, show ((97 + 5 : Nat) : Int) = 102 from rfl] at cv PUT
        go_wp2_with (go_at_call 15; refine PUT.out.mono ?_; rintro e w4 ⟨⟨v4, rfl⟩, hw4⟩)
        go_roundw
        case rel => exact ⟨_, by first | rfl | go_num, by decide, hw4⟩
        case measure => simp [intOf]
      · simp only [show ((97 + 0 : Nat) : Int) = 97 from rfl, show ((97 + 1 : Nat) : Int) = 98 from rfl, show ((97 + 2 : Nat) : Int) = 99 from rfl, show ((97 + 3 : Nat) : Int) = 100 from rfl, show ((97 + 4 : Nat) : Int) = 101 from rfl, show ((97 + 5 : Nat) : Int) = 102 from rfl] at cv PUT
        go_wp2_with (go_at_call 15; refine PUT.out.mono ?_; rintro e w4 ⟨⟨v4, rfl⟩, hw4⟩)
        go_roundw
        case rel => exact ⟨_, by first | rfl | go_num, by decide, hw4⟩
        case measure => simp [intOf]
      · simp only [show ((97 + 0 : Nat) : Int) = 97 from rfl, show ((97 + 1 : Nat) : Int) = 98 from rfl, show ((97 + 2 : Nat) : Int) = 99 from rfl, show ((97 + 3 : Nat) : Int) = 100 from rfl, show ((97 + 4 : Nat) : Int) = 101 from rfl, show ((97 + 5 : Nat) : Int) = 102 from rfl] at cv PUT
        go_wp2_with (go_at_call 15; refine PUT.out.mono ?_; rintro e w4 ⟨⟨v4, rfl⟩, hw4⟩)
        go_roundw
        case rel => exact ⟨_, by first | rfl | go_num, by decide, hw4⟩
        case measure => simp [intOf]
      · simp only [show ((97 + 0 : Nat) : Int) = 97 from rfl, show ((97 + 1 : Nat) : Int) = 98 from rfl, show ((97 + 2 : Nat) : Int) = 99 from rfl, show ((97 + 3 : Nat) : Int) = 100 from rfl, show ((97 + 4 : Nat) : Int) = 101 from rfl, show ((97 + 5 : Nat) : Int) = 102 from rfl] at cv PUT
        go_wp2_with (go_at_call 15; refine PUT.out.mono ?_; rintro e w4 ⟨⟨v4, rfl⟩, hw4⟩)
        go_roundw
        case rel => exact ⟨_, by first | rfl | go_num, by decide, hw4⟩
        case measure => simp [intOf]
    · obtain rfl : j = 6 := by omega
      have HWK := Lib.hid hw
      have hkc : (kb [99]).toList = [99] := kb_toList _
      clear hw
      go_wp2_with (first
        | (go_at_call 25; refine (woke_pages HWK.out).mono ?_; rintro e w4 ⟨g, off, cap, v0, v1, v2, rfl, hb4, told, nxt⟩; have HT := Lib.hid told; have HN := Lib.hid nxt; have HB4 := Lib.hid hb4; clear told nxt hb4 HWK)
        | (go_at_call 26; refine (HN.out _ (Below.refl _ _)).mono ?_; rintro e w5 ⟨rfl, hb5⟩; clear HN; have c0 := (HT.out w5 hb5).c0;
           have hx5 := hb5.alloc hb5.size (.cells (strs [[99]]).toArray 9); have S1 := Lib.hid (same_true _ _ _ _ _ [[99]] 1 rfl (HT.out _ hx5).s0 (sl_lits w5 [[99]] (by simp [maxLen]))); have HX5 := Lib.hid hx5; clear hx5 hb5)
        | (go_at_call 10; refine S1.out.mono ?_; rintro e w6 ⟨rfl, hb6⟩; clear S1; have h6 := HX5.out.trans (hb6.mono HX5.out.size); have c1 := (HT.out w6 h6).c1;
           have hx6 := h6.alloc h6.size (.cells (strs [[97], [98]]).toArray 9); have S2 := Lib.hid (same_true _ _ _ _ _ [[97], [98]] 2 rfl (HT.out _ hx6).s1 (sl_lits w6 [[97], [98]] (by simp [maxLen]))); have HX6 := Lib.hid hx6; clear hx6 hb6 h6)
        | (go_at_call 10; refine S2.out.mono ?_; rintro e w7 ⟨rfl, hb7⟩; clear S2; have h7 := HX6.out.trans (hb7.mono HX6.out.size); have c2 := (HT.out w7 h7).c2;
           have hx7 := h7.alloc h7.size (.cells (strs [[100], [101], [102]]).toArray 9); have S3 := Lib.hid (same_true _ _ _ _ _ [[100], [101], [102]] 3 rfl (HT.out _ hx7).s2 (sl_lits w7 [[100], [101], [102]] (by simp [maxLen]))); have HX7 := Lib.hid hx7; clear hx7 hb7 h7)
        | (go_at_call 10; refine S3.out.mono ?_; rintro e w8 ⟨rfl, hb8⟩; clear S3; have h8 := HX7.out.trans (hb8.mono HX7.out.size); have H8 := Lib.hid h8; clear hb8 h8))
      go_ret
      exact ⟨rfl, HB4.out.trans (H8.out.mono HB4.out.size)⟩
end Go.Proofs.Ytfnndifckgjmjaa
/- The tree's laws: their arguments opened: a slice of acts, a string. -/
namespace Go.Proofs.Ytfnndifckgjmjaa
open Go.RowKit Go.Afx
theorem tcInt : Try.prog.cellsOf 3 = 1 := by kernel_rfl
theorem tcStr : Try.prog.cellsOf 9 = 1 := by kernel_rfl
theorem tcAct : Try.prog.cellsOf 54 = 3 := by kernel_rfl
theorem kb_of (s : ByteArray) : kb s.data.toList = s := by
  unfold kb
  rw [Array.toArray_toList]
set_option maxRecDepth 100000 in
theorem open_tacts {H : Type} {enc : TypeId × Value → H} {w : World} {v : Value} {d : DataW H} {ps : List MemPlace} (h : DataW.Trod enc Try.prog w 0 (fun _ => true) true 22 v d ps) (hv : v.cells.toList = [v]) :
    ∃ a : List TAct, Sl w (fun _ => True) 3 v a.length (actC a) := by
  obtain ⟨fuel, hf⟩ := h
  rw [hv] at hf
  obtain ⟨es, h1, h2⟩ := open_sl Try.underlying22 tcAct (by omega) hf (fun c => ∃ a : TAct, c = a.cells ∧ True)
    (fun c ⟨a, hc, _⟩ => by subst hc; exact Ones.nil.cons rfl |>.cons rfl |>.cons rfl)
    (fun f c y hl hy => by
      obtain ⟨n, hfs⟩ := open_fields Try.underlying54 hy
      obtain ⟨c0, c1, c2, rfl⟩ := list3 hl
      obtain ⟨y0, h0⟩ := hfs 0 _ rfl
      obtain ⟨y1, h1⟩ := hfs 1 _ rfl
      obtain ⟨y2, h2⟩ := hfs 2 _ rfl
      simp only [tcInt, tcStr, List.drop_zero, List.drop_succ_cons, List.take_succ_cons, List.take_zero] at h0 h1 h2
      obtain ⟨k, e0, _, _⟩ := DataW.trod_int Try.underlying3 h0
      obtain ⟨s, e1, _, _⟩ := DataW.trod_string Try.underlying9 h1
      obtain ⟨m, e2, _, _⟩ := DataW.trod_int Try.underlying3 h2
      simp only [List.cons.injEq, and_true] at e0 e1 e2
      subst e0
      subst e1
      subst e2
      exact ⟨⟨k, s.data.toList, m⟩, by unfold TAct.cells; rw [kb_of], trivial⟩)
  obtain ⟨acts, rfl, _⟩ := choose_list es (fun c hc => (h1 c hc).2)
  refine ⟨acts, ?_⟩
  simpa [actC] using h2
end Go.Proofs.Ytfnndifckgjmjaa
/- TreePlays: its walk. -/
namespace Go.Proofs.Ytfnndifckgjmjaa
open Go.RowKit Go.Afx
theorem looks_st {w wr : World} {tb : Nat} {v : Value} {l : List En} (h : St w tb v l l wr) (hi : IntsE l) (hl : l.length ≤ 99999) (k : Key) :
    Calls Try.prog 24 #[ptrV tb, v, .string (kb k)] wr fun e w' => e = .returned (.bool true) ∧ Below wr.heap.size wr w' := by
  have ho := h.own
  obtain ⟨p, d, n, T, hg, hn, rfl⟩ := h
  exact looks_any wr (fun _ => True) tb p d n v k (T.perm (List.perm_append_comm (l₁ := [Res.own 31 2 v p.t.flat.length (enC p.t.flat)]) (l₂ := trsi tb p n))).sep.left hg hn (by omega) (ho.sl (fun _ _ => trivial)) hi
set_option maxRecDepth 100000 in
set_option maxHeartbeats 4000000 in
theorem plays_any (w : World) (v : Value) (a : List TAct) (k : Key) (h : Sl w (fun _ => True) 3 v a.length (actC a)) :
    Calls Try.prog 5 #[v, .string (kb k)] w fun e w' => e = .returned (.bool true) ∧ Below w.heap.size w w' := by
  obtain ⟨p, cap, rfl, hc1, hc2⟩ := h.form
  have HSL := Lib.hid h
  have hgr := great_any w _ _ a h
  have HGR := Lib.hid hgr
  have HPL := Lib.hid (fun (w2 : World) (hb : Below w.heap.size w w2) (hn : a.length ≤ 150) => play_any w2 _ a (h.below hb) hn)
  have hsz : (kb k).size = k.length := kb_size _
  generalize a.length = m at *
  obtain ⟨n, hn⟩ : ∃ n, k.length = n := ⟨_, rfl⟩
  rw [hn] at hsz
  clear h hgr hn
  have HAW := Lib.hid fun (w2 : World) => awake_any w2
  by_cases hk : 100 < n
  · go_enter Try.func5, Try.ntmps5
    go_wp2_with (go_at_call 7; refine HGR.out.mono ?_; rintro e w1 ⟨gb, rfl, hb1, hgb⟩; clear HGR; have HB1 := Lib.hid hb1; clear hb1 hgb; cases gb)
    all_goals
      go_wp2_with (go_at_call 8; refine (HAW.out _).mono ?_; rintro e w2 ⟨rfl, hb2⟩)
      go_ret
      exact ⟨rfl, HB1.out.trans (hb2.mono HB1.out.size)⟩
  · go_enter Try.func5, Try.ntmps5
    go_wp2_with (go_at_call 7; refine HGR.out.mono ?_; rintro e w1 ⟨gb, rfl, hb1, hgb⟩; clear HGR; have HB1 := Lib.hid hb1; have HGB := Lib.hid hgb; clear hb1 hgb; cases gb)
    · go_wp2_with (first
        | (go_at_call 8; refine (HAW.out _).mono ?_; rintro e w2 ⟨rfl, hb2⟩; have HB2 := Lib.hid (HB1.out.trans (hb2.mono HB1.out.size)); clear hb2 HAW)
        | (go_at_call 9; refine (HPL.out _ HB2.out (by first | exact (HGB.out rfl).1 | exact (HGB.out trivial).1)).mono ?_; rintro e w3 ⟨tb, v3, l, rfl, hst, hl, hie⟩; obtain ⟨pp, cc, rfl, hp1, hp2⟩ := (hst.own.sl (B := fun _ => True) (fun _ _ => trivial)).form; have HST := Lib.hid hst; have HIE := Lib.hid hie; have HL := Lib.hid hl; clear hst hie hl HPL; have HK := Lib.hid (looks_st HST.out HIE.out (by have := HL.out; omega) k))
        | (go_at_call 24; refine HK.out.mono ?_; rintro e w4 ⟨rfl, hb4⟩; clear HK; have HB4 := Lib.hid hb4; clear hb4))
      go_loopw [8] (fun i wr => ∃ j : Nat, i = .int .i64 j ∧ j ≤ l.length ∧ Below w3.heap.size w3 wr) (fun i _ => l.length - (intOf i).toNat)
      case atStart => exact ⟨0, rfl, Nat.zero_le _, HB4.out⟩
      case round =>
        obtain ⟨j, rfl, hj, hb⟩ := hrel
        have HB := Lib.hid hb
        by_cases hjl : j < l.length
        · have hst := HST.out.below hb
          obtain ⟨g, off, cap', hv, hg, e0, e1⟩ := sl_en (hst.own.sl (B := fun _ => True) (fun _ _ => trivial)) hjl
          cases hv
          have HLK := Lib.hid (looks_st hst HIE.out (by have := HL.out; omega) (l[j]).key)
          generalize (l[j]).key = kj at *
          clear hst hb e1 hg
          go_wp2_with (go_at_call 24; refine HLK.out.mono ?_; rintro e w6 ⟨rfl, hb6⟩)
          go_roundw
          case rel => exact ⟨j + 1, by go_num, by omega, HB.out.trans (hb6.mono HB.out.size)⟩
          case measure => (simp [intOf]) <;> omega
        · clear hb
          go_wp2
          go_ret
          exact ⟨rfl, HB2.out.trans ((HST.out.low.trans (HB.out.mono HST.out.low.size)).mono HB2.out.size)⟩
    · go_wp2_with (go_at_call 8; refine (HAW.out _).mono ?_; rintro e w2 ⟨rfl, hb2⟩)
      go_ret
      exact ⟨rfl, HB1.out.trans (hb2.mono HB1.out.size)⟩
theorem plays_walk (v : Value) (a : List TAct) (s : ByteArray) (_ : s.size ≤ maxLen) (w : World) (h : Sl w (fun _ => True) 3 v a.length (actC a)) :
    Calls Try.prog 5 #[v, .string s] w fun e w' => e = .returned (.bool true) ∧ Below w.heap.size w w' := by
  have h1 := plays_any w v a s.data.toList h
  rw [kb_of] at h1
  exact h1
end Go.Proofs.Ytfnndifckgjmjaa
/- TreeKeys: its walk. -/
namespace Go.Afx
open Go Go.RowKit
theorem take_grow {α : Type} (acc : List α) (x : α) (m : Int) : (acc ++ [x]).take m.toNat = if ((acc.take m.toNat).length : Int) < m then acc.take m.toNat ++ [x] else acc.take m.toNat := by
  rw [List.length_take]
  split
  · rename_i h
    rw [List.take_of_length_le (by simp; omega), List.take_of_length_le (by omega)]
  · rename_i h
    rw [List.take_append_of_le_length (by omega)]
def inKeys (fr tu : Key) (e : En) : Bool := !Op.bytesLess e.key fr && (tu.isEmpty || Op.bytesLess e.key tu)
theorem keysFrom_snoc (fr tu : Key) (l : List En) (e : En) : keysFrom fr tu (l ++ [e]) = if inKeys fr tu e then keysFrom fr tu l ++ [e.key] else keysFrom fr tu l := by
  unfold keysFrom inKeys
  rw [List.filter_append, List.map_append]
  cases h : (!Op.bytesLess e.key fr && (tu.isEmpty || Op.bytesLess e.key tu)) <;> simp [List.filter_cons, h]
theorem keysFrom_len (fr tu : Key) (l : List En) : (keysFrom fr tu l).length ≤ l.length := by
  unfold keysFrom
  rw [List.length_map]
  exact List.length_filter_le _ _
end Go.Afx
namespace Go.Proofs.Ytfnndifckgjmjaa
open Go.RowKit Go.Afx
theorem keys_st {w wr : World} {tb : Nat} {v : Value} {l : List En} (h : St w tb v l l wr) (hl : l.length ≤ 99999) (fr tu : Key) (most : Int) (hm1 : -9223372036854775808 ≤ most) (hm2 : most ≤ 9223372036854775807) :
    Calls Try.prog 11 #[ptrV tb, .string (kb fr), .string (kb tu), .int .i64 most] wr fun e w' => ∃ v, e = .returned v ∧ Own w' 9 1 v ((keysFrom fr tu l).take most.toNat).length (strs ((keysFrom fr tu l).take most.toNat)) ∧ Below wr.heap.size wr w' := by
  obtain ⟨p, d, n, T, hg, hn, rfl⟩ := h
  refine (keys_i wr tb p d n fr tu most (T.perm (List.perm_append_comm (l₁ := [Res.own 31 2 v p.t.flat.length (enC p.t.flat)]) (l₂ := trsi tb p n))).sep.left hg hn (by omega) hm1 hm2).mono ?_
  rintro e w' ⟨v, he, ho, _, hb⟩
  exact ⟨v, he, ho, hb⟩
theorem count_st {w wr : World} {tb : Nat} {v : Value} {l : List En} (h : St w tb v l l wr) (hl : l.length ≤ 99999) (fr tu : Key) :
    Calls Try.prog 12 #[ptrV tb, .string (kb fr), .string (kb tu)] wr fun e w' => e = .returned (.int .i64 ((keysFrom fr tu l).length : Int)) ∧ Below wr.heap.size wr w' := by
  obtain ⟨p, d, n, T, hg, hn, rfl⟩ := h
  exact count_i wr tb p d n fr tu (T.perm (List.perm_append_comm (l₁ := [Res.own 31 2 v p.t.flat.length (enC p.t.flat)]) (l₂ := trsi tb p n))).sep.left hg hn (by omega)
/-- The keys that are told so far. -/
def KAcc (w wr : World) (v : Value) (acc : List Key) : Prop := Own wr 9 1 v acc.length (strs acc) ∧ (∀ q, v.ownBlock = some q → w.heap.size ≤ q) ∧ Below w.heap.size w wr
set_option maxRecDepth 100000 in
set_option maxHeartbeats 4000000 in
theorem keysLaw_any (w : World) (v : Value) (a : List TAct) (fr tu : Key) (most : Int) (h : Sl w (fun _ => True) 3 v a.length (actC a)) (hm1 : -9223372036854775808 ≤ most) (hm2 : most ≤ 9223372036854775807) :
    Calls Try.prog 3 #[v, .string (kb fr), .string (kb tu), .int .i64 most] w fun e w' => e = .returned (.bool true) ∧ Below w.heap.size w w' := by
  obtain ⟨p, cap, rfl, hc1, hc2⟩ := h.form
  have HSL := Lib.hid h
  have hgr := great_any w _ _ a h
  have HGR := Lib.hid hgr
  have HPL := Lib.hid (fun (w2 : World) (hb : Below w.heap.size w w2) (hn : a.length ≤ 150) => play_any w2 _ a (h.below hb) hn)
  have hsz : (kb fr).size = fr.length := kb_size _
  have hsz2 : (kb tu).size = tu.length := kb_size _
  generalize a.length = m at *
  obtain ⟨n, hn⟩ : ∃ n, fr.length = n := ⟨_, rfl⟩
  obtain ⟨n2, hn2⟩ : ∃ n, tu.length = n := ⟨_, rfl⟩
  rw [hn] at hsz
  rw [hn2] at hsz2
  clear h hgr hn hn2
  have HAW := Lib.hid fun (w2 : World) => awake_any w2
  by_cases hk : 100 < n
  · go_enter Try.func3, Try.ntmps3
    go_wp2_with (go_at_call 7; refine HGR.out.mono ?_; rintro e w1 ⟨gb, rfl, hb1, hgb⟩; clear HGR; have HB1 := Lib.hid hb1; clear hb1 hgb; cases gb)
    all_goals
      go_wp2_with (go_at_call 8; refine (HAW.out _).mono ?_; rintro e w2 ⟨rfl, hb2⟩)
      go_ret
      exact ⟨rfl, HB1.out.trans (hb2.mono HB1.out.size)⟩
  · by_cases hk2 : 100 < n2
    · go_enter Try.func3, Try.ntmps3
      go_wp2_with (go_at_call 7; refine HGR.out.mono ?_; rintro e w1 ⟨gb, rfl, hb1, hgb⟩; clear HGR; have HB1 := Lib.hid hb1; clear hb1 hgb; cases gb)
      all_goals
        go_wp2_with (go_at_call 8; refine (HAW.out _).mono ?_; rintro e w2 ⟨rfl, hb2⟩)
        go_ret
        exact ⟨rfl, HB1.out.trans (hb2.mono HB1.out.size)⟩
    · go_enter Try.func3, Try.ntmps3
      go_wp2_with (go_at_call 7; refine HGR.out.mono ?_; rintro e w1 ⟨gb, rfl, hb1, hgb⟩; clear HGR; have HB1 := Lib.hid hb1; have HGB := Lib.hid hgb; clear hb1 hgb; cases gb)
      · go_wp2_with (first
          | (go_at_call 8; refine (HAW.out _).mono ?_; rintro e w2 ⟨rfl, hb2⟩; have HB2 := Lib.hid (HB1.out.trans (hb2.mono HB1.out.size)); clear hb2 HAW)
          | (go_at_call 9; refine (HPL.out _ HB2.out (by first | exact (HGB.out rfl).1 | exact (HGB.out trivial).1)).mono ?_; rintro e w3 ⟨tb, v3, l, rfl, hst, hl, hie⟩; obtain ⟨pp, cc, rfl, hp1, hp2⟩ := (hst.own.sl (B := fun _ => True) (fun _ _ => trivial)).form; have HST := Lib.hid hst; have HL := Lib.hid hl; clear hst hie hl HPL))
        have HB3 := Lib.hid HST.out.low
        have K0 := Lib.hid (show KAcc w3 w3 (.slice none 0 0) [] from ⟨Own.nil _ _ _, by simp [Value.ownBlock], Below.refl _ _⟩)
        go_loopw [12, 13, 14] (fun want n i wr => ∃ j : Nat, i = .int .i64 j ∧ j ≤ l.length ∧ n = .int .i64 ((keysFrom fr tu (l.take j)).length : Int) ∧ KAcc w3 wr want ((keysFrom fr tu (l.take j)).take most.toNat)) (fun _ _ i _ => l.length - (intOf i).toNat)
        case atStart => exact ⟨0, rfl, Nat.zero_le _, rfl, by rw [show (keysFrom fr tu (l.take 0)).take most.toNat = [] from by simp [keysFrom]]; exact K0.out⟩
        case round =>
          obtain ⟨j, rfl, hj, rfl, hacc⟩ := hrel
          have hal : (keysFrom fr tu (l.take j)).length ≤ 150 := by have h1 := keysFrom_len fr tu (l.take j); rw [List.length_take] at h1; have := HL.out; omega
          have hcl : ((keysFrom fr tu (l.take j)).take most.toNat).length ≤ 150 := by rw [List.length_take]; omega
          obtain ⟨acc, hac⟩ : ∃ acc, keysFrom fr tu (l.take j) = acc := ⟨_, rfl⟩
          rw [hac] at hacc hal hcl ⊢
          have HAC := Lib.hid hac
          have hgrow := fun x => take_grow acc x most
          obtain ⟨cur, hcur⟩ : ∃ cur, acc.take most.toNat = cur := ⟨_, rfl⟩
          rw [hcur] at hacc hcl hgrow
          have HCU := Lib.hid hcur
          obtain ⟨pl, cl, hpl, hl1, hl2⟩ := (hacc.1.sl (B := fun _ => True) (fun _ _ => trivial)).form
          subst hpl
          have HOWN := Lib.hid hacc.1
          have HFR := Lib.hid hacc.2.1
          have HBW := Lib.hid hacc.2.2
          have hst := HST.out.below hacc.2.2
          have HS4 := Lib.hid hst
          by_cases hjl : j < l.length
          · obtain ⟨g, off, cap', hv, hg, e0, e1⟩ := sl_en (hst.own.sl (B := fun _ => True) (fun _ _ => trivial)) hjl
            cases hv
            have hkf := keysFrom_snoc fr tu (l.take j) l[j]
            rw [hac, ← List.take_succ_eq_append_getElem hjl] at hkf
            unfold inKeys at hkf
            have hgr2 := hgrow (l[j]).key
            generalize (l[j]).key = xk at *
            obtain ⟨b1, hb1⟩ : ∃ b, Op.bytesLess xk fr = b := ⟨_, rfl⟩
            obtain ⟨b2, hb2⟩ : ∃ b, tu.isEmpty = b := ⟨_, rfl⟩
            obtain ⟨b3, hb3⟩ : ∃ b, Op.bytesLess xk tu = b := ⟨_, rfl⟩
            rw [hb1, hb2, hb3] at hkf
            have f1 : Op.bytesLess (kb xk).toList (kb fr).toList = b1 := by rw [kb_toList, kb_toList]; exact hb1
            have f2 : (kb tu).toList.isEmpty = b2 := by rw [kb_toList]; exact hb2
            have f3 : Op.bytesLess (kb xk).toList (kb tu).toList = b3 := by rw [kb_toList, kb_toList]; exact hb3
            have HKF := Lib.hid hkf
            have HGR2 := Lib.hid hgr2
            clear hb1 hb2 hb3 hkf hgr2 hgrow hacc hst hac hcur hg e1
            cases b1 <;> cases b2 <;> cases b3
            · have HK2 : Hid (keysFrom fr tu (l.take (j + 1)) = acc) := by show _ = _; simpa using HKF.out
              clear HKF HGR2
              go_wp2
              go_roundw
              case rel => exact ⟨j + 1, by go_num, by omega, by rw [HK2.out], by rw [HK2.out, HCU.out]; exact ⟨HOWN.out, HFR.out, HBW.out⟩⟩
              case measure => (simp [intOf]) <;> omega
            · have HK2 : Hid (keysFrom fr tu (l.take (j + 1)) = acc ++ [xk]) := by show _ = _; simpa using HKF.out
              by_cases hlm : (cur.length : Int) < most
              · have HT : Hid ((acc ++ [xk]).take most.toNat = cur ++ [xk]) := by show _ = _; rw [HGR2.out, if_pos hlm]
                have hal5 : Below wr.heap.size wr (wr.alloc (.cells #[.string (kb xk)] 9)) := (Below.refl _ _).alloc (Nat.le_refl _) _
                have ho1 := HOWN.out.below hal5
                have hxb := Blk.new wr 9 [.string (kb xk)]
                have hs1 : Sl (wr.alloc (.cells #[.string (kb xk)] 9)) (fun _ => True) 1 (.slice (some ⟨wr.heap.size, 0, none⟩) 1 1) 1 [.string (kb xk)] :=
                  ⟨rfl, Ones.cons rfl Ones.nil, .inr ⟨wr.heap.size, 0, 1, rfl, Nat.le_refl _, by simp [maxLen], trivial, hxb.lt, fun j hj => by rw [Nat.zero_add]; exact hxb.cell j⟩⟩
                have HX5 := Lib.hid hal5
                clear hal5 hxb HKF HGR2
                go_wp2_with (at_builtin; refine wpList_app rfl _ _ rfl elemKey (by rfl) ho1 (by rfl) hs1 (by unfold maxLen; omega) (by omega) ?_; intro v1 w7 g1 g2 g3 g4 g5; clear ho1 hs1; have G1 := Lib.hid g1; have G2 := Lib.hid g2; have G3 := Lib.hid g3; clear g1 g2 g3 g4 g5)
                go_roundw
                case rel =>
                  refine ⟨j + 1, by go_num, by omega, by rw [HK2.out, List.length_append]; go_num, ?_⟩
                  rw [HK2.out, HT.out]
                  refine ⟨?_, fun q hq => ?_, ?_⟩
                  · rw [List.length_append, strs_append]; exact G1.out
                  · rcases G3.out with h | h
                    · rw [h] at hq; exact HFR.out q hq
                    · rw [h] at hq
                      have h1 : (wr.alloc (.cells #[.string (kb xk)] 9)).heap.size = q := Option.some.inj hq
                      have h2 := HX5.out.size
                      have h3 := HBW.out.size
                      omega
                  · exact (HBW.out.trans (HX5.out.mono HBW.out.size)).trans (G2.out.below (by have := HX5.out.size; have := HBW.out.size; omega) (fun q hq => HFR.out q hq))
                case measure => (simp [intOf]) <;> omega
              · have HT : Hid ((acc ++ [xk]).take most.toNat = cur) := by show _ = _; rw [HGR2.out, if_neg hlm]
                clear HKF HGR2
                go_wp2
                go_roundw
                case rel => exact ⟨j + 1, by go_num, by omega, by rw [HK2.out, List.length_append]; go_num, by rw [HK2.out, HT.out]; exact ⟨HOWN.out, HFR.out, HBW.out⟩⟩
                case measure => (simp [intOf]) <;> omega
            · have HK2 : Hid (keysFrom fr tu (l.take (j + 1)) = acc ++ [xk]) := by show _ = _; simpa using HKF.out
              by_cases hlm : (cur.length : Int) < most
              · have HT : Hid ((acc ++ [xk]).take most.toNat = cur ++ [xk]) := by show _ = _; rw [HGR2.out, if_pos hlm]
                have hal5 : Below wr.heap.size wr (wr.alloc (.cells #[.string (kb xk)] 9)) := (Below.refl _ _).alloc (Nat.le_refl _) _
                have ho1 := HOWN.out.below hal5
                have hxb := Blk.new wr 9 [.string (kb xk)]
                have hs1 : Sl (wr.alloc (.cells #[.string (kb xk)] 9)) (fun _ => True) 1 (.slice (some ⟨wr.heap.size, 0, none⟩) 1 1) 1 [.string (kb xk)] :=
                  ⟨rfl, Ones.cons rfl Ones.nil, .inr ⟨wr.heap.size, 0, 1, rfl, Nat.le_refl _, by simp [maxLen], trivial, hxb.lt, fun j hj => by rw [Nat.zero_add]; exact hxb.cell j⟩⟩
                have HX5 := Lib.hid hal5
                clear hal5 hxb HKF HGR2
                go_wp2_with (at_builtin; refine wpList_app rfl _ _ rfl elemKey (by rfl) ho1 (by rfl) hs1 (by unfold maxLen; omega) (by omega) ?_; intro v1 w7 g1 g2 g3 g4 g5; clear ho1 hs1; have G1 := Lib.hid g1; have G2 := Lib.hid g2; have G3 := Lib.hid g3; clear g1 g2 g3 g4 g5)
                go_roundw
                case rel =>
                  refine ⟨j + 1, by go_num, by omega, by rw [HK2.out, List.length_append]; go_num, ?_⟩
                  rw [HK2.out, HT.out]
                  refine ⟨?_, fun q hq => ?_, ?_⟩
                  · rw [List.length_append, strs_append]; exact G1.out
                  · rcases G3.out with h | h
                    · rw [h] at hq; exact HFR.out q hq
                    · rw [h] at hq
                      have h1 : (wr.alloc (.cells #[.string (kb xk)] 9)).heap.size = q := Option.some.inj hq
                      have h2 := HX5.out.size
                      have h3 := HBW.out.size
                      omega
                  · exact (HBW.out.trans (HX5.out.mono HBW.out.size)).trans (G2.out.below (by have := HX5.out.size; have := HBW.out.size; omega) (fun q hq => HFR.out q hq))
                case measure => (simp [intOf]) <;> omega
              · have HT : Hid ((acc ++ [xk]).take most.toNat = cur) := by show _ = _; rw [HGR2.out, if_neg hlm]
                clear HKF HGR2
                go_wp2
                go_roundw
                case rel => exact ⟨j + 1, by go_num, by omega, by rw [HK2.out, List.length_append]; go_num, by rw [HK2.out, HT.out]; exact ⟨HOWN.out, HFR.out, HBW.out⟩⟩
                case measure => (simp [intOf]) <;> omega
            · have HK2 : Hid (keysFrom fr tu (l.take (j + 1)) = acc ++ [xk]) := by show _ = _; simpa using HKF.out
              by_cases hlm : (cur.length : Int) < most
              · have HT : Hid ((acc ++ [xk]).take most.toNat = cur ++ [xk]) := by show _ = _; rw [HGR2.out, if_pos hlm]
                have hal5 : Below wr.heap.size wr (wr.alloc (.cells #[.string (kb xk)] 9)) := (Below.refl _ _).alloc (Nat.le_refl _) _
                have ho1 := HOWN.out.below hal5
                have hxb := Blk.new wr 9 [.string (kb xk)]
                have hs1 : Sl (wr.alloc (.cells #[.string (kb xk)] 9)) (fun _ => True) 1 (.slice (some ⟨wr.heap.size, 0, none⟩) 1 1) 1 [.string (kb xk)] :=
                  ⟨rfl, Ones.cons rfl Ones.nil, .inr ⟨wr.heap.size, 0, 1, rfl, Nat.le_refl _, by simp [maxLen], trivial, hxb.lt, fun j hj => by rw [Nat.zero_add]; exact hxb.cell j⟩⟩
                have HX5 := Lib.hid hal5
                clear hal5 hxb HKF HGR2
                go_wp2_with (at_builtin; refine wpList_app rfl _ _ rfl elemKey (by rfl) ho1 (by rfl) hs1 (by unfold maxLen; omega) (by omega) ?_; intro v1 w7 g1 g2 g3 g4 g5; clear ho1 hs1; have G1 := Lib.hid g1; have G2 := Lib.hid g2; have G3 := Lib.hid g3; clear g1 g2 g3 g4 g5)
                go_roundw
                case rel =>
                  refine ⟨j + 1, by go_num, by omega, by rw [HK2.out, List.length_append]; go_num, ?_⟩
                  rw [HK2.out, HT.out]
                  refine ⟨?_, fun q hq => ?_, ?_⟩
                  · rw [List.length_append, strs_append]; exact G1.out
                  · rcases G3.out with h | h
                    · rw [h] at hq; exact HFR.out q hq
                    · rw [h] at hq
                      have h1 : (wr.alloc (.cells #[.string (kb xk)] 9)).heap.size = q := Option.some.inj hq
                      have h2 := HX5.out.size
                      have h3 := HBW.out.size
                      omega
                  · exact (HBW.out.trans (HX5.out.mono HBW.out.size)).trans (G2.out.below (by have := HX5.out.size; have := HBW.out.size; omega) (fun q hq => HFR.out q hq))
                case measure => (simp [intOf]) <;> omega
              · have HT : Hid ((acc ++ [xk]).take most.toNat = cur) := by show _ = _; rw [HGR2.out, if_neg hlm]
                clear HKF HGR2
                go_wp2
                go_roundw
                case rel => exact ⟨j + 1, by go_num, by omega, by rw [HK2.out, List.length_append]; go_num, by rw [HK2.out, HT.out]; exact ⟨HOWN.out, HFR.out, HBW.out⟩⟩
                case measure => (simp [intOf]) <;> omega
            · have HK2 : Hid (keysFrom fr tu (l.take (j + 1)) = acc) := by show _ = _; simpa using HKF.out
              clear HKF HGR2
              go_wp2
              go_roundw
              case rel => exact ⟨j + 1, by go_num, by omega, by rw [HK2.out], by rw [HK2.out, HCU.out]; exact ⟨HOWN.out, HFR.out, HBW.out⟩⟩
              case measure => (simp [intOf]) <;> omega
            · have HK2 : Hid (keysFrom fr tu (l.take (j + 1)) = acc) := by show _ = _; simpa using HKF.out
              clear HKF HGR2
              go_wp2
              go_roundw
              case rel => exact ⟨j + 1, by go_num, by omega, by rw [HK2.out], by rw [HK2.out, HCU.out]; exact ⟨HOWN.out, HFR.out, HBW.out⟩⟩
              case measure => (simp [intOf]) <;> omega
            · have HK2 : Hid (keysFrom fr tu (l.take (j + 1)) = acc) := by show _ = _; simpa using HKF.out
              clear HKF HGR2
              go_wp2
              go_roundw
              case rel => exact ⟨j + 1, by go_num, by omega, by rw [HK2.out], by rw [HK2.out, HCU.out]; exact ⟨HOWN.out, HFR.out, HBW.out⟩⟩
              case measure => (simp [intOf]) <;> omega
            · have HK2 : Hid (keysFrom fr tu (l.take (j + 1)) = acc) := by show _ = _; simpa using HKF.out
              clear HKF HGR2
              go_wp2
              go_roundw
              case rel => exact ⟨j + 1, by go_num, by omega, by rw [HK2.out], by rw [HK2.out, HCU.out]; exact ⟨HOWN.out, HFR.out, HBW.out⟩⟩
              case measure => (simp [intOf]) <;> omega
          · obtain rfl : j = l.length := by omega
            have HOUT : Hid (keysFrom fr tu l = acc) := by show _ = _; rw [← HAC.out, List.take_length]
            have HK := Lib.hid (keys_st hst (by have := HL.out; omega) fr tu most hm1 hm2)
            have HCT := Lib.hid (fun (w5 : World) (hb : Below wr.heap.size wr w5) => count_st (hst.below hb) (by have := HL.out; omega) fr tu)
            rw [HOUT.out, HCU.out] at HK
            rw [HOUT.out] at HCT
            clear hgrow hacc hst hac hcur
            go_wp2_with (first
              | (go_at_call 11; refine HK.out.mono ?_; rintro e w5 ⟨v5, rfl, ho5, hb5⟩; clear HK; obtain ⟨p5, c5, hp5, _, _⟩ := (ho5.sl (B := fun _ => True) (fun _ _ => trivial)).form; subst hp5; have HS5 := Lib.hid (same_true w5 _ _ _ _ cur _ rfl (ho5.sl (B := fun _ => True) (fun _ _ => trivial)) ((HOWN.out.below hb5).sl (B := fun _ => True) (fun _ _ => trivial))); have HB5 := Lib.hid hb5; clear ho5 hb5)
              | (go_at_call 10; refine HS5.out.mono ?_; rintro e w6 ⟨rfl, hb6⟩; clear HS5; have HB6 := Lib.hid (HB5.out.trans (hb6.mono HB5.out.size)); clear hb6)
              | (go_at_call 12; refine (HCT.out _ HB6.out).mono ?_; rintro e w7 ⟨rfl, hb7⟩; clear HCT; have HB7 := Lib.hid (HB6.out.trans (hb7.mono HB6.out.size)); clear hb7))
            go_ret
            have h1 := HB3.out.trans (HBW.out.mono HB3.out.size)
            exact ⟨rfl, HB2.out.trans ((h1.trans (HB7.out.mono h1.size)).mono HB2.out.size)⟩
      · go_wp2_with (go_at_call 8; refine (HAW.out _).mono ?_; rintro e w2 ⟨rfl, hb2⟩)
        go_ret
        exact ⟨rfl, HB1.out.trans (hb2.mono HB1.out.size)⟩
theorem wf_rng {n : Int} (h : (Lit.int .i64 n).wf = true) : -9223372036854775808 ≤ n ∧ n ≤ 9223372036854775807 := by
  simpa [Lit.wf, IntKind.min, IntKind.max, IntKind.bits, IntKind.signed] using h
theorem keysLaw_walk (v : Value) (a : List TAct) (s : ByteArray) (_ : s.size ≤ maxLen) (s2 : ByteArray) (_ : s2.size ≤ maxLen) (most : Int) (hm : (Lit.int .i64 most).wf = true) (w : World) (h : Sl w (fun _ => True) 3 v a.length (actC a)) :
    Calls Try.prog 3 #[v, .string s, .string s2, .int .i64 most] w fun e w' => e = .returned (.bool true) ∧ Below w.heap.size w w' := by
  have h1 := keysLaw_any w v a s.data.toList s2.data.toList most h (wf_rng hm).1 (wf_rng hm).2
  rw [kb_of, kb_of] at h1
  exact h1
end Go.Proofs.Ytfnndifckgjmjaa
/- TreeNone: its walk: of no tree nothing is told. -/
namespace Go.Proofs.Ytfnndifckgjmjaa
open Go.RowKit Go.Afx
theorem told_none (w : World) (i : Int) :
    Calls Try.prog 42 #[.slice none 0 0, .int .i64 i, .string ⟨#[]⟩, .int .i64 0, .bool false] w fun e w' => e = .returned (.bool true) ∧ Below w.heap.size w w' := by
  refine told_any w (fun _ => True) (.slice none 0 0) [] i [] 0 false ?_ (by simp) (.inr ⟨?_, rfl, rfl, rfl⟩)
  · exact (Own.nil w 31 2).sl (fun _ _ => trivial)
  · exact .inr (by simp)
theorem lfind_none (w : World) (k : Key) :
    Calls Try.prog 27 #[.slice none 0 0, .string (kb k)] w fun e w' => e = .returned (.tuple #[.int .i64 0, .bool false]) ∧ Below w.heap.size w w' :=
  lfind_any w (fun _ => True) (.slice none 0 0) [] k ((Own.nil w 31 2).sl (fun _ _ => trivial)) (by simp)
set_option maxRecDepth 100000 in
set_option maxHeartbeats 2000000 in
theorem looks_none (w : World) (k : Key) :
    Calls Try.prog 24 #[.pointer none, .slice none 0 0, .string (kb k)] w fun e w' => e = .returned (.bool true) ∧ Below w.heap.size w w' := by
  have HB0 := Below.refl w.heap.size w
  go_enter Try.func24, Try.ntmps24
  go_wp2_with (first
    | (go_at_call 27; refine (lfind_none _ k).mono ?_; rintro e w' ⟨rfl, hb⟩; have h := (by assumption : Below w.heap.size w _).trans (hb.mono (by assumption : Below w.heap.size w _).size); clear hb)
    | (go_at_call 39; refine (nil_Get_i _ k).mono ?_; rintro e w' ⟨rfl, hb⟩; have h := (by assumption : Below w.heap.size w _).trans (hb.mono (by assumption : Below w.heap.size w _).size); clear hb)
    | (go_at_call 18; refine (nil_Len_i _).mono ?_; rintro e w' ⟨rfl, hb⟩; have h := (by assumption : Below w.heap.size w _).trans (hb.mono (by assumption : Below w.heap.size w _).size); clear hb)
    | (go_at_call 26; refine (nil_Next_i _ k _).mono ?_; rintro e w' ⟨rfl, hb⟩; have h := (by assumption : Below w.heap.size w _).trans (hb.mono (by assumption : Below w.heap.size w _).size); clear hb)
    | (go_at_call 40; refine (nil_Ahead_i _ k _).mono ?_; rintro e w' ⟨rfl, hb⟩; have h := (by assumption : Below w.heap.size w _).trans (hb.mono (by assumption : Below w.heap.size w _).size); clear hb)
    | (go_at_call 41; refine (nil_Last_i _).mono ?_; rintro e w' ⟨rfl, hb⟩; have h := (by assumption : Below w.heap.size w _).trans (hb.mono (by assumption : Below w.heap.size w _).size); clear hb)
    | (go_at_call 42; refine (told_none _ _).mono ?_; rintro e w' ⟨rfl, hb⟩; have h := (by assumption : Below w.heap.size w _).trans (hb.mono (by assumption : Below w.heap.size w _).size); clear hb))
  go_ret
  exact ⟨rfl, by assumption⟩
set_option maxRecDepth 100000 in
set_option maxHeartbeats 2000000 in
theorem noneLaw_any (w : World) (k : Key) (z : Int) :
    Calls Try.prog 6 #[.string (kb k), .int .i64 z] w fun e w' => e = .returned (.bool true) ∧ Below w.heap.size w w' := by
  have HB0 := Below.refl w.heap.size w
  have hsz : (kb k).size = k.length := kb_size _
  obtain ⟨n, hn⟩ : ∃ n, k.length = n := ⟨_, rfl⟩
  rw [hn] at hsz
  clear hn
  by_cases hk : 100 < n
  · go_enter Try.func6, Try.ntmps6
    go_wp2_with (go_at_call 8; refine (awake_any _).mono ?_; rintro e w2 ⟨rfl, hb2⟩)
    go_ret
    exact ⟨rfl, hb2⟩
  · go_enter Try.func6, Try.ntmps6
    go_wp2_with (first
      | (go_at_call 15; refine (nil_Put_i _ k z).mono ?_; rintro e w' ⟨rfl, hb⟩; have h := (by assumption : Below w.heap.size w _).trans (hb.mono (by assumption : Below w.heap.size w _).size); clear hb)
      | (go_at_call 20; refine (nil_Delete_i _ k).mono ?_; rintro e w' ⟨rfl, hb⟩; have h := (by assumption : Below w.heap.size w _).trans (hb.mono (by assumption : Below w.heap.size w _).size); clear hb)
      | (go_at_call 24; refine (looks_none _ k).mono ?_; rintro e w' ⟨rfl, hb⟩; have h := (by assumption : Below w.heap.size w _).trans (hb.mono (by assumption : Below w.heap.size w _).size); clear hb)
      | (go_at_call 11; refine (nil_Keys_i _ k [] 5).mono ?_; rintro e w' ⟨rfl, hb⟩; have h := (by assumption : Below w.heap.size w _).trans (hb.mono (by assumption : Below w.heap.size w _).size); clear hb)
      | (go_at_call 12; refine (nil_Count_i _ k []).mono ?_; rintro e w' ⟨rfl, hb⟩; have h := (by assumption : Below w.heap.size w _).trans (hb.mono (by assumption : Below w.heap.size w _).size); clear hb)
      | (go_at_call 22; refine (nil_Depth_i _).mono ?_; rintro e w' ⟨rfl, hb⟩; have h := (by assumption : Below w.heap.size w _).trans (hb.mono (by assumption : Below w.heap.size w _).size); clear hb)
      | (go_at_call 25; refine (nil_Pages_i _).mono ?_; rintro e w' ⟨rfl, hb⟩; have h := (by assumption : Below w.heap.size w _).trans (hb.mono (by assumption : Below w.heap.size w _).size); clear hb)
      | (go_at_call 8; refine (awake_any _).mono ?_; rintro e w' ⟨rfl, hb⟩; have h := (by assumption : Below w.heap.size w _).trans (hb.mono (by assumption : Below w.heap.size w _).size); clear hb))
    go_ret
    exact ⟨rfl, by assumption⟩
theorem noneLaw_walk (s : ByteArray) (_ : s.size ≤ maxLen) (z : Int) (_ : (Lit.int .i64 z).wf = true) (w : World) :
    Calls Try.prog 6 #[.string s, .int .i64 z] w fun e w' => e = .returned (.bool true) ∧ Below w.heap.size w w' := by
  have h1 := noneLaw_any w s.data.toList z
  rw [kb_of] at h1
  exact h1
end Go.Proofs.Ytfnndifckgjmjaa
/- Slices of tree.entry[string]: Clone, Delete. -/
namespace Go.Proofs.Ytfnndifckgjmjaa
open Go.RowKit Go.Afx

@[go_sem] theorem eqlNilEs (w : World) (a : Option Addr) (n c : Nat) : (binOp .eql 70 (.slice a n c) (.slice none 0 0)).run Try.prog w = .ok (.bool a.isNone) w := Lib.run_eql_slice_nil w _ _ a n c 0 0 Try.underlying70
theorem elemEs : Elem Try.prog 70 94 2 32 (.agg #[.string ⟨#[]⟩, .string ⟨#[]⟩]) :=
  ⟨Try.underlying70, by kernel_rfl, rfl, by omega, by intro u hu; simp [Value.cells] at hu; rcases hu with rfl | rfl <;> rfl⟩
set_option maxRecDepth 100000 in
set_option maxHeartbeats 400000 in
theorem clone_Es (w : World) (B : Nat → Prop) (v : Value) (n : Nat) (cs : List Value) (h : Sl w B 2 v n cs) (hn : n ≤ 1000000000) :
    Calls Try.prog 53 #[v] w fun e w' => ∃ v', e = .returned v' ∧ Own w' 94 2 v' n cs ∧ Below w.heap.size w w' ∧ (∀ k, v'.ownBlock = some k → w.heap.size ≤ k) := by
  obtain ⟨p, cap, rfl, _, _⟩ := h.form
  cases p with
  | none =>
    have hn0 : n = 0 := by
      rcases h.2.2 with ⟨_, _, _, h0, _⟩ | ⟨_, _, _, h0, _⟩
      · exact h0
      · cases h0
    subst hn0
    have hc : cs = [] := List.eq_nil_of_length_eq_zero (by simpa using h.1)
    subst hc
    go_enter Try.func53, Try.ntmps53
    go_wp2
    go_ret
    exact ⟨_, rfl, Own.nil _ _ _, Below.refl _ _, by simp [Value.ownBlock]⟩
  | some a =>
    have hs := h.alloc (.cells #[] 94)
    have ho : Own (w.alloc (.cells #[] 94)) 94 2 (.slice (some ⟨w.heap.size, 0, none⟩) 0 0) 0 [] := Own.made w 94 2 [] [] 0 0 rfl Ones.nil (Nat.le_refl _) (by simp [maxLen]) (by simp)
    clear h
    go_enter Try.func53, Try.ntmps53
    go_wp2_with (at_builtin; refine wpList_app rfl _ _ rfl elemEs (by rfl) ho (by rfl) hs (by unfold maxLen; omega) (by omega) ?_; intro v' w' h1 h2 h3 _ _)
    go_ret
    have hb : Below w.heap.size w w' := (((Below.refl w.heap.size w).alloc (Nat.le_refl _) _).trans (h2.below (B := w.heap.size) (by simp) (fun i hi => by have : w.heap.size = i := (by simpa [Value.ownBlock] using hi); omega)))
    refine ⟨v', rfl, by simpa using h1, hb, fun k hk => ?_⟩
    rw [hk] at h3
    have h7 : k = w.heap.size ∨ k = w.heap.size + 1 := by simpa [Value.ownBlock] using h3
    omega

set_option maxRecDepth 100000 in
set_option maxHeartbeats 1000000 in
theorem delete_Es (w : World) (g off cap n i : Nat) (cs : List Value) (h : Own w 94 2 (.slice (some ⟨g, off, none⟩) n cap) n cs) (hn : n ≤ 1000000000) (hi : i < n) :
    Calls Try.prog 78 #[.slice (some ⟨g, off, none⟩) n cap, .int .i64 i, .int .i64 ((i : Int) + 1)] w fun e w' =>
      e = .returned (.slice (some ⟨g, off, none⟩) (n - 1) cap) ∧ Own w' 94 2 (.slice (some ⟨g, off, none⟩) (n - 1) cap) (n - 1) (cs.take (i * 2) ++ cs.drop ((i + 1) * 2)) ∧ Only (fun k => k = g) w w' ∧ w'.heap.size = w.heap.size := by
  have hnc : n ≤ cap := by
    rcases h.2.2 with ⟨h0, _⟩ | ⟨g', off', cap', cur, hv, _, h1, _⟩
    · cases h0
    · cases hv; exact h1
  have hcm : cap ≤ maxLen := by
    rcases h.2.2 with ⟨h0, _⟩ | ⟨g', off', cap', cur, hv, _, _, h1, _⟩
    · cases h0
    · cases hv; exact h1
  unfold maxLen at hcm
  obtain ⟨j, hj⟩ : ∃ j, j = i + 1 := ⟨_, rfl⟩
  have hji : (i : Int) + 1 = (j : Int) := by omega
  have hres : n - 1 = i + (n - j) := by omega
  have hjn : j ≤ n := by omega
  have hil : i < j := by omega
  rw [hji, hres, ← hj]
  have ho := (h.take (m := i) (by omega)).drew
  have hsl := (h.sl (B := fun _ => True) (fun _ _ => trivial))
  have hij : ((i : Int) == (j : Int)) = false := by rw [beq_eq_false_iff_ne]; omega
  have hic : i ≤ cap := by omega
  have hlen := h.1
  clear hji hj hres
  by_cases hcj : cap = j
  · have hnj : n = j := by omega
    subst hcj
    subst hnj
    have hs : Sl w.drew (fun _ => True) 2 (.slice (some ⟨g, off, none⟩) 0 0) 0 (cs.drop (n * 2)) := by
      refine ⟨by rw [List.length_drop]; omega, h.2.1.drop _, .inr ?_⟩
      obtain ⟨g', off', cap', hv, h1, h2, h3, h4, h5⟩ := hsl.place (by omega)
      cases hv
      exact ⟨g, off, 0, rfl, by omega, by omega, trivial, h4, fun q hq => by rw [List.length_drop] at hq; omega⟩
    have HL := Lib.hid hlen
    clear h hsl hlen
    go_enter Try.func78, Try.ntmps78
    go_wp2
    refine wp_region_lit_plan [] [(0, 0), (1, 0), (2, 0), (3, 0), (4, 0), (5, 0), (6, 4), (7, 0)] (fun _ => False) (by kernel_rfl) (by kernel_rfl) (fun c a d v w h => by cases d <;> exact h) ?_
    go_wp2_with (first
      | (refine plan_pure (v := _) (by rfl) (by rfl) (by rfl) (by intro _; go_simp; with_reducible rfl) ?_; simp only [List.setIfInBounds_toArray, List.set_cons_zero, List.set_cons_succ]; try go_bits) | (refine plan_read (v := _) (by rfl) (by rfl) (by rfl) (by go_simp; with_reducible rfl) ?_; simp only [List.setIfInBounds_toArray, List.set_cons_zero, List.set_cons_succ]; try go_bits) | (refine plan_readB (v := _) (by rfl) (by rfl) (by rfl) (by intro _ hag; unfold Agree at hag; go_simp; with_reducible rfl) ?_; simp only [List.setIfInBounds_toArray, List.set_cons_zero, List.set_cons_succ]; try go_bits) | (refine plan_skip0 (by rfl) (by rfl) (by rfl) ?_; simp only [List.setIfInBounds_toArray, List.set_cons_zero, List.set_cons_succ]; try go_bits) | (refine plan_skip1 (by rfl) (by rfl) (by rfl) ?_; simp only [List.setIfInBounds_toArray, List.set_cons_zero, List.set_cons_succ]; try go_bits) | (refine plan_skip2 (by rfl) (by rfl) (by rfl) ?_; simp only [List.setIfInBounds_toArray, List.set_cons_zero, List.set_cons_succ]; try go_bits) | (refine plan_skip4 (by rfl) (by rfl) (by rfl) ?_; simp only [List.setIfInBounds_toArray, List.set_cons_zero, List.set_cons_succ]; try go_bits) | (refine plan_any (by rfl) ?_) | (refine plan_keep (by rfl) ?_) | (refine plan_nil ?_) | (with_reducible refine And.intro (by first | assumption | exact Agree.refl _ _ | exact agree_drew _ _ | exact agree_alloc _ (by intro k hk; subst hk; first | omega | (simp; omega))) ?_) | (unfold Act.put; simp only [List.setIfInBounds_toArray, List.set_cons_zero, List.set_cons_succ])
      | (at_builtin; refine wpList_app_room rfl _ _ rfl elemEs (by rfl) ho (by rfl) hs (by omega) ?_; intro w1 h1 h2 h3)
      | (refine wpList_clear_spare rfl _ rfl elemEs h1 (by rfl) (by omega) (by omega) ?_; intro w2 h4 h5 h6))
    go_ret
    refine ⟨by simp, by rw [Nat.sub_self]; exact h4, ?_, by rw [h6, h3]; rfl⟩
    exact ((Only.refl (fun k => k = g) w).drew.trans h2 (fun _ _ h => h)).trans h5 (fun _ _ h => h)
  · have hs : Sl w.drew (fun _ => True) 2 (.slice (some ⟨g, off + j * 2, none⟩) (n - j) (cap - j)) (n - j) (cs.drop (j * 2)) := by
      have e : off + j * 2 = off + j * 2 := by omega
      have h1 := (Sl.from hsl hjn).drew
      rw [e] at h1
      exact h1
    have HL := Lib.hid hlen
    clear h hsl hlen
    go_enter Try.func78, Try.ntmps78
    go_wp2
    refine wp_region_lit_plan [] [(0, 0), (1, 0), (2, 0), (3, 0), (4, 0), (5, 0), (6, 4), (7, 0)] (fun _ => False) (by kernel_rfl) (by kernel_rfl) (fun c a d v w h => by cases d <;> exact h) ?_
    go_wp2_with (first
      | (refine plan_pure (v := _) (by rfl) (by rfl) (by rfl) (by intro _; go_simp; with_reducible rfl) ?_; simp only [List.setIfInBounds_toArray, List.set_cons_zero, List.set_cons_succ]; try go_bits) | (refine plan_read (v := _) (by rfl) (by rfl) (by rfl) (by go_simp; with_reducible rfl) ?_; simp only [List.setIfInBounds_toArray, List.set_cons_zero, List.set_cons_succ]; try go_bits) | (refine plan_readB (v := _) (by rfl) (by rfl) (by rfl) (by intro _ hag; unfold Agree at hag; go_simp; with_reducible rfl) ?_; simp only [List.setIfInBounds_toArray, List.set_cons_zero, List.set_cons_succ]; try go_bits) | (refine plan_skip0 (by rfl) (by rfl) (by rfl) ?_; simp only [List.setIfInBounds_toArray, List.set_cons_zero, List.set_cons_succ]; try go_bits) | (refine plan_skip1 (by rfl) (by rfl) (by rfl) ?_; simp only [List.setIfInBounds_toArray, List.set_cons_zero, List.set_cons_succ]; try go_bits) | (refine plan_skip2 (by rfl) (by rfl) (by rfl) ?_; simp only [List.setIfInBounds_toArray, List.set_cons_zero, List.set_cons_succ]; try go_bits) | (refine plan_skip4 (by rfl) (by rfl) (by rfl) ?_; simp only [List.setIfInBounds_toArray, List.set_cons_zero, List.set_cons_succ]; try go_bits) | (refine plan_any (by rfl) ?_) | (refine plan_keep (by rfl) ?_) | (refine plan_nil ?_) | (with_reducible refine And.intro (by first | assumption | exact Agree.refl _ _ | exact agree_drew _ _ | exact agree_alloc _ (by intro k hk; subst hk; first | omega | (simp; omega))) ?_) | (unfold Act.put; simp only [List.setIfInBounds_toArray, List.set_cons_zero, List.set_cons_succ])
      | (at_builtin; refine wpList_app_room rfl _ _ rfl elemEs (by rfl) ho (by rfl) hs (by omega) ?_; intro w1 h1 h2 h3)
      | (refine wpList_clear_spare rfl _ rfl elemEs h1 (by rfl) (by omega) (by omega) ?_; intro w2 h4 h5 h6))
    go_ret
    refine ⟨rfl, h4, ?_, by rw [h6, h3]; rfl⟩
    exact ((Only.refl (fun k => k = g) w).drew.trans h2 (fun _ _ h => h)).trans h5 (fun _ _ h => h)
end Go.Proofs.Ytfnndifckgjmjaa
/- A key's place among a page's entries: find. -/
namespace Go.Proofs.Ytfnndifckgjmjaa
open Go.RowKit Go.Afx

set_option maxRecDepth 100000 in
set_option maxHeartbeats 1000000 in
theorem cmp_s (w : World) (a k : Key) (v : Value) :
    Calls Try.prog 70 #[.agg #[.string (kb a), v], .string (kb k)] w fun e w' => e = .returned (.int .i64 (cmpK a k)) ∧ Below w.heap.size w w' := by
  have h1 : cmpK a k = if Op.bytesLess a k then -1 else if Op.bytesLess k a then 1 else 0 := rfl
  have hl : Op.bytesLess (kb a).toList (kb k).toList = Op.bytesLess a k := by rw [kb_toList, kb_toList]
  have hg : ((kb a).toList == (kb k).toList) = (!Op.bytesLess a k && !Op.bytesLess k a) := by rw [kb_toList, kb_toList]; exact keq_lt a k
  rw [h1]
  clear h1
  generalize Op.bytesLess a k = x at *
  generalize Op.bytesLess k a = y at *
  cases x
  · cases y
    · have hg2 : ((kb a).toList == (kb k).toList) = true := hg
      clear hg
      go_enter Try.func70, Try.ntmps70
      go_wp2
      go_ret
      exact ⟨rfl, (Below.refl _ _).alloc (Nat.le_refl _) _⟩
    · have hg2 : ((kb a).toList == (kb k).toList) = false := hg
      clear hg
      go_enter Try.func70, Try.ntmps70
      go_wp2
      go_ret
      exact ⟨rfl, (Below.refl _ _).alloc (Nat.le_refl _) _⟩
  · go_enter Try.func70, Try.ntmps70
    go_wp2
    go_ret
    exact ⟨rfl, (Below.refl _ _).alloc (Nat.le_refl _) _⟩

set_option maxRecDepth 100000 in
set_option maxHeartbeats 2000000 in
theorem search_s (w : World) (B : Nat → Prop) (v : Value) (l : List En) (k : Key) (h : Sl w B 2 v l.length (enC l)) (hr : Rise l) (hn : l.length ≤ 1000000000) :
    Calls Try.prog 69 #[v, .string (kb k), .func (.func 70) #[] #[]] w fun e w' => e = .returned (.tuple #[.int .i64 (pos k l : Nat), .bool (has k l)]) ∧ Below w.heap.size w w' := by
  obtain ⟨p, cap, rfl, hc1, hc2⟩ := h.form
  have HS := Lib.hid h
  have HPL := Lib.hid (pos_le k l)
  have HLS : Hid (∀ (h : Nat) (hh : h < l.length), Op.bytesLess (l[h]).key k = decide (h < pos k l)) := fun h hh => pos_lt hr hh
  have HH1 : Hid (∀ h : pos k l < l.length, has k l = ((l[pos k l]).key == k)) := fun h => by unfold has; rw [List.getElem?_eq_getElem h]
  have HH2 : Hid (¬ pos k l < l.length → has k l = false) := fun h => by unfold has; rw [List.getElem?_eq_none (by omega)]
  generalize pos k l = q at *
  generalize has k l = hs at *
  clear h hr
  go_enter Try.func69, Try.ntmps69
  go_wp2
  go_loopw [9, 10, 11] (fun i j h wr => ∃ a b : Nat, i = .int .i64 a ∧ j = .int .i64 b ∧ a ≤ q ∧ q ≤ b ∧ b ≤ l.length ∧ Below w.heap.size w wr) (fun i j _ _ => (intOf j).toNat - (intOf i).toNat)
  case atStart => exact ⟨0, l.length, rfl, rfl, Nat.zero_le _, HPL.out, Nat.le_refl _, Below.refl _ _⟩
  case round =>
    obtain ⟨a, b, rfl, rfl, h1, h2, h3, hb⟩ := hrel
    have HB := Lib.hid hb
    by_cases hab : a < b
    · obtain ⟨h, hh⟩ : ∃ h : Nat, h = (a + b) / 2 := ⟨_, rfl⟩
      have hhi : ((a : Int) + (b : Int)) / 2 = (h : Int) := by omega
      have hah : a ≤ h := by omega
      have hhb : h < b := by omega
      have hhl : h < l.length := by omega
      obtain ⟨g, off, cap', hv, hg, e0, e1⟩ := sl_en (HS.out.below hb) hhl
      cases hv
      have HLT := Lib.hid (HLS.out h hhl)
      have HC := Lib.hid (fun W => cmp_s W l[h].key k l[h].val)
      have HN := Lib.hid (cmpK_neg l[h].key k)
      clear hb hh
      generalize l[h].key = ke at *
      generalize l[h].val = ve at *
      generalize cmpK ke k = c at *
      cases hc : Op.bytesLess ke k
      · have hpos : ¬ h < q := of_decide_eq_false (HLT.out.symm.trans hc)
        have hcn : (decide (c < 0)) = false := HN.out.trans hc
        have hcn2 : ¬ c < 0 := of_decide_eq_false hcn
        clear hc
        go_wp2_with (go_at_call 70; refine (HC.out _).mono ?_; rintro e w2 ⟨rfl, hb2⟩)
        go_roundw
        case rel => exact ⟨a, h, rfl, rfl, h1, by omega, by omega, HB.out.trans (hb2.mono HB.out.size)⟩
        case measure => (simp [intOf]) <;> omega
      · have hpos : h < q := of_decide_eq_true (HLT.out.symm.trans hc)
        have hcn : (decide (c < 0)) = true := HN.out.trans hc
        have hcn2 : c < 0 := of_decide_eq_true hcn
        clear hc
        go_wp2_with (go_at_call 70; refine (HC.out _).mono ?_; rintro e w2 ⟨rfl, hb2⟩)
        go_roundw
        case rel => exact ⟨h + 1, b, by go_num, rfl, by omega, h2, h3, HB.out.trans (hb2.mono HB.out.size)⟩
        case measure => (simp [intOf]) <;> omega
    · obtain rfl : a = q := by omega
      obtain rfl : b = a := by omega
      by_cases hpl : b < l.length
      · obtain ⟨g, off, cap', hv, hg, e0, e1⟩ := sl_en (HS.out.below hb) hpl
        cases hv
        have HC := Lib.hid (fun W => cmp_s W (l[b]).key k (l[b]).val)
        have hcz : (cmpK (l[b]).key k == 0) = hs := (cmpK_zero _ _).trans (HH1.out hpl).symm
        clear hb HLS HH1 HH2
        generalize (l[b]).key = ke at *
        generalize (l[b]).val = ve at *
        generalize cmpK ke k = c at *
        go_wp2_with (go_at_call 70; refine (HC.out _).mono ?_; rintro e w2 ⟨rfl, hb2⟩)
        exact bodyPost_ret (v := .tuple #[.int .i64 (b : Nat), .bool hs]) (by simp [results, Try.results69, go_sem]) rfl ⟨rfl, HB.out.trans (hb2.mono HB.out.size)⟩
      · have hh := HH2.out hpl
        subst hh
        have hpe : b = l.length := by omega
        have hnl : ¬ (b : Int) < (l.length : Int) := by omega
        have HPE := Lib.hid hpe
        clear hpe
        clear hb HLS HH1 HH2
        go_wp2
        exact bodyPost_ret (v := .tuple #[.int .i64 (b : Nat), .bool false]) (by simp [results, Try.results69, go_sem]) rfl ⟨rfl, HB.out⟩
end Go.Proofs.Ytfnndifckgjmjaa
