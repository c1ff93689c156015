/- calc: Total's methods, and the sum of all. -/
import Derived.Test.YtlgohkdckdnmhaaDoorCalcA
namespace Go.Proofs.YtlgohkdckdnmhaaDoor
open Go.RowKit Go.Afx

def IsTot (w : World) (b : Nat) (z n : Int) : Prop := Blk w b 175 [.int .u64 (hiW z), .int .u64 (loW z), .int .i64 n]

theorem sum_next (l : List Int) (i : Nat) (h : i < l.length) : (l.take (i + 1)).sum = (l.take i).sum + l[i] := by
  have e : (l.take i ++ [l[i]]).sum = (l.take (i + 1)).sum := by rw [List.take_append_getElem h]
  rw [← e, List.sum_append, List.sum_cons, List.sum_nil, Int.add_zero]

set_option maxHeartbeats 1000000 in
theorem put_tot (w : World) (b : Nat) (z n : Int) (v : Value) (l : List Int) (hb : IsTot w b z n) (hl : Sl w (fun k => k ≠ b) 1 v l.length (ints l)) (hfit : ∀ x ∈ l, fits x) (hn1 : -1000000 ≤ n) (hn2 : n ≤ 1000000) (hll : l.length ≤ 1000000) :
    Calls Tryd.prog 142 #[.pointer (some ⟨b, 0, none⟩), v] w fun e w' => e = .returned (.tuple #[]) ∧ IsTot w' b (z + l.sum) (n + l.length) ∧ Only (fun k => k = b) w w' := by
  obtain ⟨p, cap, rfl, hc1, hc2⟩ := hl.form
  have HB := Lib.hid hb
  have HL := Lib.hid hl
  have HF := Lib.hid hfit
  clear hb hl hfit
  go_enter Tryd.func142, Tryd.ntmps142
  go_wp2
  go_loopw [10] (fun i wr => ∃ k : Nat, i = .int .i64 k ∧ k ≤ l.length ∧ IsTot wr b (z + (l.take k).sum) n ∧ Only (fun k => k = b) w wr) (fun i _ => l.length - (intOf i).toNat)
  case atStart => exact ⟨0, rfl, Nat.zero_le _, by simpa using HB.out, Only.refl _ _⟩
  case round =>
    obtain ⟨k, rfl, hk, ht, ho⟩ := hrel
    have hlt := ht.lt
    by_cases hka : k < l.length
    · obtain ⟨g, off, cap', hv, _, _, hgb, hglt, hc⟩ := HL.out.place (by omega)
      cases hv
      have hc0 : w.cell? ⟨g, off + k, none⟩ = some (.int .i64 l[k]) := by rw [hc k (by simpa [ints] using hka)]; simp [ints, hka]
      have hck : wr.cell? ⟨g, off + k, none⟩ = some (.int .i64 l[k]) := (ho.cell (p := ⟨g, off + k, none⟩) hglt hgb).trans hc0
      have hfx := HF.out l[k] (List.getElem_mem hka)
      have HX := Lib.hid (sum_next l k hka)
      generalize l[k] = x at *
      have HOF := Lib.hid (fun w => of_any x hfx.1 hfx.2 w)
      generalize hz : z + (l.take k).sum = zk at *
      have HZ := Lib.hid hz
      have t0 : wr.cell? ⟨b, 0, none⟩ = some (.int .u64 (hiW zk)) := ht.cell 0
      have t1 : wr.cell? ⟨b, 1, none⟩ = some (.int .u64 (loW zk)) := ht.cell 1
      have HT := Lib.hid ht
      have HO := Lib.hid ho
      clear ht ho hc hfx hz hc0
      go_wp2
      refine wp_region_lit_plan [] [(0, 0), (1, 0), (2, 0), (3, 0), (5, 0), (4, 2), (6, 3), (7, 4), (8, 0), (9, 0), (10, 4)] (fun k => k = b) (by kernel_rfl) (by kernel_rfl) (fun c a d v w h => by cases d <;> exact h) ?_
      go_wp2_with (first
        | (refine plan_pure (v := _) (by rfl) (by rfl) (by rfl) (by intro _; go_simp; with_reducible rfl) ?_; simp only [List.setIfInBounds_toArray, List.set_cons_zero, List.set_cons_succ]; try go_bits) | (refine plan_read (v := _) (by rfl) (by rfl) (by rfl) (by go_simp; with_reducible rfl) ?_; simp only [List.setIfInBounds_toArray, List.set_cons_zero, List.set_cons_succ]; try go_bits) | (refine plan_readB (v := _) (by rfl) (by rfl) (by rfl) (by intro _ hag; unfold Agree at hag; go_simp; with_reducible rfl) ?_; simp only [List.setIfInBounds_toArray, List.set_cons_zero, List.set_cons_succ]; try go_bits) | (refine plan_skip0 (by rfl) (by rfl) (by rfl) ?_; simp only [List.setIfInBounds_toArray, List.set_cons_zero, List.set_cons_succ]; try go_bits) | (refine plan_skip1 (by rfl) (by rfl) (by rfl) ?_; simp only [List.setIfInBounds_toArray, List.set_cons_zero, List.set_cons_succ]; try go_bits) | (refine plan_skip2 (by rfl) (by rfl) (by rfl) ?_; simp only [List.setIfInBounds_toArray, List.set_cons_zero, List.set_cons_succ]; try go_bits) | (refine plan_skip4 (by rfl) (by rfl) (by rfl) ?_; simp only [List.setIfInBounds_toArray, List.set_cons_zero, List.set_cons_succ]; try go_bits) | (refine plan_any (by rfl) ?_) | (refine plan_keep (by rfl) ?_) | (refine plan_nil ?_) | (with_reducible refine And.intro (by first | assumption | exact Agree.refl _ _ | exact agree_drew _ _ | exact agree_alloc _ (by intro k hk; subst hk; first | omega | (simp; omega))) ?_) | (unfold Act.put; simp only [List.setIfInBounds_toArray, List.set_cons_zero, List.set_cons_succ])
        | (go_at_call 148; refine (HOF.out _).mono ?_; rintro e w2 ⟨rfl, hb2⟩; have hag : Agree (fun k => k = b) wr.drew w2 := agree_bel hb2 (by intro k hk; subst hk; exact hlt))
        | (go_at_call 147; refine (plus_any zk x _).mono ?_; rintro e w3 ⟨rfl, hb3⟩; have ht3 := (HT.out.drew.below hb2).below hb3; have hf3 : ∀ i, w3.frozen? ⟨b, i, none⟩ = false := ht3.frozen;
           have t03 : w3.cell? ⟨b, 0, none⟩ = some (.int .u64 (hiW zk)) := ht3.cell 0; have t13 : w3.cell? ⟨b, 1, none⟩ = some (.int .u64 (loW zk)) := ht3.cell 1; have HT3 := Lib.hid ht3; clear ht3))
      have hzx : zk + x = z + (l.take (k + 1)).sum := by have := HX.out; have := HZ.out; omega
      have HZX := Lib.hid hzx
      clear hzx
      go_roundw
      case rel =>
        refine ⟨k + 1, by go_num, by omega, ?_, ?_⟩
        · rw [← HZX.out]
          exact (HT3.out.set 0 _).set 1 _
        · have ho3 : Only (fun k => k = b) w w3 := (HO.out.drew.trans (Only.of_none hb2) (fun _ _ h => h)).trans (Only.of_none hb3) (fun _ _ h => h)
          exact (ho3.setCell (fun _ => rfl) _).setCell (fun _ => rfl) _
      case measure => simp [intOf]; omega
    · have hkl : k = l.length := by omega
      have hz : z + (l.take k).sum = z + l.sum := by rw [hkl, List.take_length]
      rw [hz] at ht
      have t2 : wr.cell? ⟨b, 2, none⟩ = some (.int .i64 n) := ht.cell 2
      have hf : ∀ i, wr.frozen? ⟨b, i, none⟩ = false := ht.frozen
      have HT := Lib.hid ht
      have HO := Lib.hid ho
      clear ht ho hkl hz
      go_wp2
      go_end0
      exact ⟨rfl, HT.out.set 2 _, HO.out.setCell (fun _ => rfl) _⟩

set_option maxHeartbeats 1000000 in
theorem take_tot (w : World) (b : Nat) (z n : Int) (v : Value) (l : List Int) (hb : IsTot w b z n) (hl : Sl w (fun k => k ≠ b) 1 v l.length (ints l)) (hfit : ∀ x ∈ l, fits x) (hn1 : -1000000 ≤ n) (hn2 : n ≤ 1000000) (hll : l.length ≤ 1000000) :
    Calls Tryd.prog 143 #[.pointer (some ⟨b, 0, none⟩), v] w fun e w' => e = .returned (.tuple #[]) ∧ IsTot w' b (z - l.sum) (n - l.length) ∧ Only (fun k => k = b) w w' := by
  obtain ⟨p, cap, rfl, hc1, hc2⟩ := hl.form
  have HB := Lib.hid hb
  have HL := Lib.hid hl
  have HF := Lib.hid hfit
  clear hb hl hfit
  go_enter Tryd.func143, Tryd.ntmps143
  go_wp2
  go_loopw [10] (fun i wr => ∃ k : Nat, i = .int .i64 k ∧ k ≤ l.length ∧ IsTot wr b (z - (l.take k).sum) n ∧ Only (fun k => k = b) w wr) (fun i _ => l.length - (intOf i).toNat)
  case atStart => exact ⟨0, rfl, Nat.zero_le _, by simpa using HB.out, Only.refl _ _⟩
  case round =>
    obtain ⟨k, rfl, hk, ht, ho⟩ := hrel
    have hlt := ht.lt
    by_cases hka : k < l.length
    · obtain ⟨g, off, cap', hv, _, _, hgb, hglt, hc⟩ := HL.out.place (by omega)
      cases hv
      have hc0 : w.cell? ⟨g, off + k, none⟩ = some (.int .i64 l[k]) := by rw [hc k (by simpa [ints] using hka)]; simp [ints, hka]
      have hck : wr.cell? ⟨g, off + k, none⟩ = some (.int .i64 l[k]) := (ho.cell (p := ⟨g, off + k, none⟩) hglt hgb).trans hc0
      have hfx := HF.out l[k] (List.getElem_mem hka)
      have HX := Lib.hid (sum_next l k hka)
      generalize l[k] = x at *
      have HOF := Lib.hid (fun w => of_any x hfx.1 hfx.2 w)
      generalize hz : z - (l.take k).sum = zk at *
      have HZ := Lib.hid hz
      have t0 : wr.cell? ⟨b, 0, none⟩ = some (.int .u64 (hiW zk)) := ht.cell 0
      have t1 : wr.cell? ⟨b, 1, none⟩ = some (.int .u64 (loW zk)) := ht.cell 1
      have HT := Lib.hid ht
      have HO := Lib.hid ho
      clear ht ho hc hfx hz hc0
      go_wp2
      refine wp_region_lit_plan [] [(0, 0), (1, 0), (2, 0), (3, 0), (5, 0), (4, 2), (6, 3), (7, 4), (8, 0), (9, 0), (10, 4)] (fun k => k = b) (by kernel_rfl) (by kernel_rfl) (fun c a d v w h => by cases d <;> exact h) ?_
      go_wp2_with (first
        | (refine plan_pure (v := _) (by rfl) (by rfl) (by rfl) (by intro _; go_simp; with_reducible rfl) ?_; simp only [List.setIfInBounds_toArray, List.set_cons_zero, List.set_cons_succ]; try go_bits) | (refine plan_read (v := _) (by rfl) (by rfl) (by rfl) (by go_simp; with_reducible rfl) ?_; simp only [List.setIfInBounds_toArray, List.set_cons_zero, List.set_cons_succ]; try go_bits) | (refine plan_readB (v := _) (by rfl) (by rfl) (by rfl) (by intro _ hag; unfold Agree at hag; go_simp; with_reducible rfl) ?_; simp only [List.setIfInBounds_toArray, List.set_cons_zero, List.set_cons_succ]; try go_bits) | (refine plan_skip0 (by rfl) (by rfl) (by rfl) ?_; simp only [List.setIfInBounds_toArray, List.set_cons_zero, List.set_cons_succ]; try go_bits) | (refine plan_skip1 (by rfl) (by rfl) (by rfl) ?_; simp only [List.setIfInBounds_toArray, List.set_cons_zero, List.set_cons_succ]; try go_bits) | (refine plan_skip2 (by rfl) (by rfl) (by rfl) ?_; simp only [List.setIfInBounds_toArray, List.set_cons_zero, List.set_cons_succ]; try go_bits) | (refine plan_skip4 (by rfl) (by rfl) (by rfl) ?_; simp only [List.setIfInBounds_toArray, List.set_cons_zero, List.set_cons_succ]; try go_bits) | (refine plan_any (by rfl) ?_) | (refine plan_keep (by rfl) ?_) | (refine plan_nil ?_) | (with_reducible refine And.intro (by first | assumption | exact Agree.refl _ _ | exact agree_drew _ _ | exact agree_alloc _ (by intro k hk; subst hk; first | omega | (simp; omega))) ?_) | (unfold Act.put; simp only [List.setIfInBounds_toArray, List.set_cons_zero, List.set_cons_succ])
        | (go_at_call 148; refine (HOF.out _).mono ?_; rintro e w2 ⟨rfl, hb2⟩; have hag : Agree (fun k => k = b) wr.drew w2 := agree_bel hb2 (by intro k hk; subst hk; exact hlt))
        | (go_at_call 149; refine (minus_any zk x _).mono ?_; rintro e w3 ⟨rfl, hb3⟩; have ht3 := (HT.out.drew.below hb2).below hb3; have hf3 : ∀ i, w3.frozen? ⟨b, i, none⟩ = false := ht3.frozen;
           have t03 : w3.cell? ⟨b, 0, none⟩ = some (.int .u64 (hiW zk)) := ht3.cell 0; have t13 : w3.cell? ⟨b, 1, none⟩ = some (.int .u64 (loW zk)) := ht3.cell 1; have HT3 := Lib.hid ht3; clear ht3))
      have hzx : zk - x = z - (l.take (k + 1)).sum := by have := HX.out; have := HZ.out; omega
      have HZX := Lib.hid hzx
      clear hzx
      go_roundw
      case rel =>
        refine ⟨k + 1, by go_num, by omega, ?_, ?_⟩
        · rw [← HZX.out]
          exact (HT3.out.set 0 _).set 1 _
        · have ho3 : Only (fun k => k = b) w w3 := (HO.out.drew.trans (Only.of_none hb2) (fun _ _ h => h)).trans (Only.of_none hb3) (fun _ _ h => h)
          exact (ho3.setCell (fun _ => rfl) _).setCell (fun _ => rfl) _
      case measure => simp [intOf]; omega
    · have hkl : k = l.length := by omega
      have hz : z - (l.take k).sum = z - l.sum := by rw [hkl, List.take_length]
      rw [hz] at ht
      have t2 : wr.cell? ⟨b, 2, none⟩ = some (.int .i64 n) := ht.cell 2
      have hf : ∀ i, wr.frozen? ⟨b, i, none⟩ = false := ht.frozen
      have HT := Lib.hid ht
      have HO := Lib.hid ho
      clear ht ho hkl hz
      go_wp2
      go_end0
      exact ⟨rfl, HT.out.set 2 _, HO.out.setCell (fun _ => rfl) _⟩

theorem put_nil (w : World) (p : Option Addr) (n cap : Nat) : Calls Tryd.prog 142 #[.pointer none, .slice p n cap] w fun e w' => e = .returned (.tuple #[]) ∧ w = w' := by
  go_enter Tryd.func142, Tryd.ntmps142
  go_wp2
  exact bodyPost_ret (v := .tuple #[]) (by simp [results, Tryd.results142, go_sem]) rfl ⟨rfl, rfl⟩
theorem take_nilT (w : World) (p : Option Addr) (n cap : Nat) : Calls Tryd.prog 143 #[.pointer none, .slice p n cap] w fun e w' => e = .returned (.tuple #[]) ∧ w = w' := by
  go_enter Tryd.func143, Tryd.ntmps143
  go_wp2
  exact bodyPost_ret (v := .tuple #[]) (by simp [results, Tryd.results143, go_sem]) rfl ⟨rfl, rfl⟩
def near (z : Int) : Prop := -85070591730234615865843651857942052864 ≤ z ∧ z ≤ 85070591730234615865843651857942052864
theorem sum_tot (w : World) (b : Nat) (z n : Int) (hb : IsTot w b z n) (hz : near z) :
    Calls Tryd.prog 144 #[.pointer (some ⟨b, 0, none⟩)] w fun e w' => e = .returned (.tuple #[.int .i64 (shortN z), .int .i64 (shortE z)]) ∧ Below w.heap.size w w' := by
  have HS := Lib.hid (fun w => short_any z hz.1 hz.2 w)
  have t0 : w.cell? ⟨b, 0, none⟩ = some (.int .u64 (hiW z)) := hb.cell 0
  have t1 : w.cell? ⟨b, 1, none⟩ = some (.int .u64 (loW z)) := hb.cell 1
  clear hb hz
  generalize shortN z = sn at *
  generalize shortE z = se at *
  go_enter Tryd.func144, Tryd.ntmps144
  go_wp2_with (go_at_call 150; refine (HS.out _).mono ?_; rintro e w2 ⟨rfl, hb2⟩)
  go_ret2
  exact ⟨rfl, hb2⟩
theorem sum_nil (w : World) : Calls Tryd.prog 144 #[.pointer none] w fun e w' => e = .returned (.tuple #[.int .i64 0, .int .i64 0]) ∧ w = w' := by
  go_enter Tryd.func144, Tryd.ntmps144
  go_wp2
  go_ret2
  exact ⟨rfl, rfl⟩
theorem sum_range : ∀ (l : List Int), (∀ x ∈ l, fits x) → -9223372036854775808 * (l.length : Int) ≤ l.sum ∧ l.sum ≤ 9223372036854775808 * (l.length : Int)
  | [], _ => by simp
  | x :: l, h => by
    have h1 := sum_range l (fun y hy => h y (by simp [hy]))
    have h2 := h x (by simp)
    unfold fits at h2
    rw [List.sum_cons, List.length_cons]
    omega

end Go.Proofs.YtlgohkdckdnmhaaDoor
