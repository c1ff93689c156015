/- Words: quoted. -/
import Derived.Test.YtjbocnofkaffjaaLxC
import Derived.Test.YtjbocnofkaffjaaMemB
namespace Go.Proofs.Ytjbocnofkaffjaa
open Go.RowKit Go.Afx

theorem elemU8 : Elem Try.prog 57 5 1 1 (.int .u8 0) :=
  ⟨Try.underlying57, by kernel_rfl, rfl, by omega, by intro u hu; simp [Value.cells] at hu; subst hu; rfl⟩

def by8 (l : List UInt8) : List Value := l.map fun c => .int .u8 (c.toNat : Int)
theorem by8_length (l : List UInt8) : (by8 l).length = l.length := by simp [by8]
theorem by8_append (a b : List UInt8) : by8 (a ++ b) = by8 a ++ by8 b := by simp [by8]
theorem by8_get (l : List UInt8) (k : Nat) (h : k < l.length) : (by8 l)[k]? = some (.int .u8 (l[k].toNat : Int)) := by simp [by8, h]
theorem by8_ones (l : List UInt8) : Ones (by8 l) := by
  intro u hu
  obtain ⟨x, _, rfl⟩ := List.mem_map.1 hu
  rfl

theorem sl_string (w : World) (B : Nat → Prop) (v : Value) (l : List UInt8) (h : Sl w B 1 v l.length (by8 l)) :
    (convert 57 9 v).run Try.prog w = .ok (.string ⟨l.toArray⟩) w := by
  rcases h.2.2 with ⟨p, cap, rfl, h0, _, hp⟩ | ⟨g, off, cap, rfl, _, _, _, _, hc⟩
  · obtain rfl : l = [] := List.eq_nil_of_length_eq_zero h0
    cases p with
    | none => obtain rfl := hp rfl; kernel_rfl
    | some a => exact run_convert_bytes_back (P := Try.prog) w 57 9 5 a cap [] Try.underlying57 Try.underlying5 Try.underlying9 (fun j hj => absurd hj (Nat.not_lt_zero _))
  · exact run_convert_bytes_back (P := Try.prog) w 57 9 5 ⟨g, off, none⟩ cap l Try.underlying57 Try.underlying5 Try.underlying9 (fun j hj => by
      rw [Addr.add_lit, hc j (by rw [by8_length]; exact hj)]
      exact by8_get l j hj)
theorem one_byte (w : World) (c : UInt8) : Sl (w.alloc (.cells #[.int .u8 (c.toNat : Int)] 5)) (fun _ => True) 1 (.slice (some ⟨w.heap.size, 0, none⟩) 1 1) 1 (by8 [c]) :=
  (Own.made w 5 1 [.int .u8 (c.toNat : Int)] [] 1 1 rfl (Ones.nil.cons rfl) (Nat.le_refl _) (by simp [maxLen]) (by simp)).sl (fun _ _ => trivial)
theorem own_form {w : World} {e : TypeId} {sz : Nat} {v : Value} {n : Nat} {cs : List Value} (h : Own w e sz v n cs) : ∃ p cap, v = .slice p n cap ∧ n ≤ cap ∧ cap ≤ 9223372036854775807 :=
  (h.sl (B := fun _ => True) (fun _ _ => trivial)).form
/-- A quoted text under way. -/
def QuotSt (w1 : World) (n0 : Nat) (l : List UInt8) (out : WV × Nat × Bool) (k : Nat) (v : Value) (wr : World) : Prop :=
  ∃ acc : List UInt8, Own wr 5 1 v acc.length (by8 acc) ∧ (∀ q, v.ownBlock = some q → n0 < q) ∧ quotF acc k (l.drop k) = out ∧ acc.length ≤ k ∧ Below w1.heap.size w1 wr

set_option maxRecDepth 100000 in
set_option maxHeartbeats 4000000 in
theorem quoted_any (w : World) (s : ByteArray) (c : UInt8) (t : List UInt8) (hs : s.data.toList = c :: t) (hl : (c :: t).length ≤ 10000) :
    Calls Try.prog 23 #[.string s] w fun e w' => e = .returned (TookF (quotF [] 1 t)) ∧ Below w.heap.size w w' := by
  have hsz := size_list s _ hs
  have HG := Lib.hid (get_list s _ hs)
  have hal : Below w.heap.size w (w.alloc (.cells #[.int .i64 0, .string ⟨#[]⟩, .int .i64 0, .int .i64 0] 28)) := (Below.refl _ _).alloc (Nat.le_refl _) _
  have HK := Lib.hid (Blk.new w 28 [.int .i64 0, .string ⟨#[]⟩, .int .i64 0, .int .i64 0])
  have hs1 : (w.alloc (.cells #[.int .i64 0, .string ⟨#[]⟩, .int .i64 0, .int .i64 0] 28)).heap.size = w.heap.size + 1 := by simp
  have HS1 := Lib.hid hs1
  have HAL := Lib.hid hal
  obtain ⟨out, hout⟩ : ∃ out, quotF [] 1 t = out := ⟨_, rfl⟩
  have hout1 : quotF [] 1 ((c :: t).drop 1) = out := hout
  rw [hout]
  have HOUT := Lib.hid hout1
  have h1l : 1 ≤ (c :: t).length := by simp
  clear hs hal hs1 hout hout1
  generalize c :: t = l at *
  have HSZ := Lib.hid hsz
  have hsl : s.size ≤ 10000 := by omega
  have hs1l : 1 ≤ s.size := by omega
  clear hsz h1l
  go_enter Try.func23, Try.ntmps23
  go_wp2
  generalize hw1 : w.alloc (.cells #[.int .i64 0, .string ⟨#[]⟩, .int .i64 0, .int .i64 0] 28) = w1 at *
  clear hw1
  go_loopw [5, 6] (fun v i wr => ∃ k : Nat, i = .int .i64 k ∧ k ≤ s.size ∧ QuotSt w1 w.heap.size l out k v wr) (fun _ i _ => s.size - (intOf i).toNat)
  case atStart => exact ⟨1, rfl, hs1l, [], Own.nil _ _ _, by simp [Value.ownBlock], HOUT.out, Nat.zero_le _, Below.refl _ _⟩
  case round =>
    obtain ⟨k, rfl, hk, acc, hown, hnew, hq, hak, hbr⟩ := hrel
    obtain ⟨pv, cv, rfl, hcv1, hcv2⟩ := own_form hown
    have hkr := HK.out.below hbr
    have z0 : wr.cell? ⟨w.heap.size, 0, none⟩ = some (.int .i64 0) := hkr.cell 0
    have z1 : wr.cell? ⟨w.heap.size, 1, none⟩ = some (.string ⟨#[]⟩) := hkr.cell 1
    have z2 : wr.cell? ⟨w.heap.size, 2, none⟩ = some (.int .i64 0) := hkr.cell 2
    have z3 : wr.cell? ⟨w.heap.size, 3, none⟩ = some (.int .i64 0) := hkr.cell 3
    have kf : ∀ i, wr.frozen? ⟨w.heap.size, i, none⟩ = false := hkr.frozen
    have HOWN := Lib.hid hown
    have HNEW := Lib.hid hnew
    have hbw := HAL.out.trans (hbr.mono HAL.out.size)
    have HBW := Lib.hid hbw
    have HBR := Lib.hid hbr
    have hfin : ∀ a b c2 d, Below w.heap.size w ((((wr.setCell ⟨w.heap.size, 0, none⟩ a).setCell ⟨w.heap.size, 1, none⟩ b).setCell ⟨w.heap.size, 2, none⟩ c2).setCell ⟨w.heap.size, 3, none⟩ d) := fun a b c2 d =>
      (((hbw.setCell (p := ⟨w.heap.size, 0, none⟩) (by simp) _).setCell (p := ⟨w.heap.size, 1, none⟩) (by simp) _).setCell (p := ⟨w.heap.size, 2, none⟩) (by simp) _).setCell (p := ⟨w.heap.size, 3, none⟩) (by simp) _
    have HFIN := Lib.hid hfin
    clear hown hnew hkr hbw hbr hfin
    by_cases hka : k < s.size
    · have hkl : k < l.length := by rw [← HSZ.out]; exact hka
      rw [List.drop_eq_getElem_cons hkl, quotF.eq_def] at hq
      simp only at hq
      have hg : ((s[k]'hka).toNat : Int) = (l[k].toNat : Int) := by rw [HG.out k hka hkl]
      by_cases h10 : l[k] = 10
      · rw [if_pos h10] at hq
        have hz : ((s[k]'hka).toNat : Int) = 10 := by rw [hg, h10]; rfl
        have HO2 : Hid (TookF out = .tuple #[.agg #[.int .i64 0, .string ⟨#[]⟩, .int .i64 0, .int .i64 0], .int .i64 0, .bool false]) := by
          rw [← hq]; exact Lib.hid rfl
        clear hq hg h10
        go_wp2
        refine bodyPost_ret (v := .tuple #[.agg #[.int .i64 0, .string ⟨#[]⟩, .int .i64 0, .int .i64 0], .int .i64 0, .bool false]) (by simp [results, Try.results23, go_sem, z0, z1, z2, z3]) rfl ⟨by rw [HO2.out], ?_⟩
        exact HFIN.out _ _ _ _
      · rw [if_neg h10] at hq
        have hz10 : (((s[k]'hka).toNat : Int) == 10) = false := by
          rw [hg, beq_eq_false_iff_ne]
          intro h
          exact h10 (UInt8.toNat_inj.1 (by show l[k].toNat = 10; omega))
        by_cases h39 : l[k] ≠ 39
        · rw [if_pos h39] at hq
          have hz39 : (((s[k]'hka).toNat : Int) != 39) = true := by
            rw [hg, bne_iff_ne]
            intro h
            exact h39 (UInt8.toNat_inj.1 (by show l[k].toNat = 39; omega))
          have HQ := Lib.hid hq
          have hal : Below wr.heap.size wr (wr.alloc (.cells #[.int .u8 ((s[k]'hka).toNat : Int)] 5)) := (Below.refl _ _).alloc (Nat.le_refl _) _
          have ho1 := HOWN.out.below hal
          have hs1 := one_byte wr (s[k]'hka)
          have hcc : (s[k]'hka) = l[k] := HG.out k hka hkl
          have HCC := Lib.hid hcc
          have HAL2 := Lib.hid hal
          clear hq hg h10 h39 hal hcc
          go_wp2_with (at_builtin; refine wpList_app rfl _ _ rfl elemU8 (by rfl) ho1 (by rfl) hs1 (by unfold maxLen; omega) (by omega) ?_; intro v1 w7 g1 g2 g3 g4 g5; clear ho1 hs1; have G1 := Lib.hid g1; have G2 := Lib.hid g2; have G3 := Lib.hid g3; clear g1 g2 g3 g4 g5)
          have hs7 := HBR.out.size
          have hs8 := HS1.out
          have h8 := HBR.out.trans (HAL2.out.mono hs7)
          refine ⟨⟨k + 1, by go_num, by omega, acc ++ [l[k]], ?_, fun q hq => ?_, HQ.out, ?_, ?_⟩, by (simp [intOf]) <;> omega⟩
          · rw [List.length_append, by8_append, ← HCC.out]; exact G1.out
          · rcases G3.out with h | h
            · rw [h] at hq; exact HNEW.out q hq
            · rw [h] at hq
              have : wr.heap.size + 1 = q := by simpa using hq
              omega
          · rw [List.length_append]; simp only [List.length_cons, List.length_nil]; omega
          · exact h8.trans (G2.out.below h8.size (fun q hq => by have := HNEW.out q hq; omega))
        · rw [if_neg h39] at hq
          have h39b : l[k] = 39 := Classical.not_not.1 h39
          have hz39 : (((s[k]'hka).toNat : Int) != 39) = false := by
            rw [hg, h39b]; rfl
          have hkc := sl_string wr (fun _ => True) _ acc (HOWN.out.sl (fun _ _ => trivial))
          obtain ⟨bb, hbb⟩ : ∃ bb, decide (acc.length ≤ 200) = bb := ⟨_, rfl⟩
          have hbi : decide ((acc.length : Int) ≤ 200) = bb := by rw [← hbb, decide_eq_decide]; omega
          have hkk : (k : Int) + 1 = ((k + 1 : Nat) : Int) := by omega
          have fin : ((⟨2, acc, 0, 0⟩ : WV), k + 1, decide (acc.length ≤ 200)) = out → Hid (TookF out = .tuple #[.agg #[.int .i64 2, .string ⟨acc.toArray⟩, .int .i64 0, .int .i64 0], .int .i64 ((k : Int) + 1), .bool bb]) := fun h => by
            rw [← h, hbb, hkk]; exact Lib.hid rfl
          by_cases hk1 : k + 1 < s.size
          · have hkl1 : k + 1 < l.length := by rw [← HSZ.out]; exact hk1
            rw [List.drop_eq_getElem_cons hkl1] at hq
            simp only at hq
            have hk1i : decide ((k : Int) + 1 < (s.size : Int)) = true := decide_eq_true (by omega)
            have hg1 : ((s[k + 1]'hk1).toNat : Int) = (l[k + 1].toNat : Int) := by rw [HG.out (k + 1) hk1 hkl1]
            obtain ⟨m, hm⟩ : ∃ m, m = k + 1 := ⟨_, rfl⟩
            have hmi : (k : Int) + 1 = (m : Int) := by omega
            by_cases hd : l[k + 1] = 39
            · rw [if_pos hd] at hq
              have hzd : (((s[k + 1]'hk1).toNat : Int) == 39) = true := by rw [hg1, hd]; rfl
              have HQ := Lib.hid hq
              have hal : Below wr.heap.size wr (wr.alloc (.cells #[.int .u8 39] 5)) := (Below.refl _ _).alloc (Nat.le_refl _) _
              have ho1 := HOWN.out.below hal
              have hs1 : Sl (wr.alloc (.cells #[.int .u8 39] 5)) (fun _ => True) 1 (.slice (some ⟨wr.heap.size, 0, none⟩) 1 1) 1 (by8 [39]) := one_byte wr 39
              have HAL2 := Lib.hid hal
              clear hq hg hg1 h10 h39 h39b hal fin hbb hbi hkk hkc hd hkl1
              subst hm
              clear hmi
              go_wp2_with (at_builtin; refine wpList_app rfl _ _ rfl elemU8 (by rfl) ho1 (by rfl) hs1 (by unfold maxLen; omega) (by omega) ?_; intro v1 w7 g1 g2 g3 g4 g5; clear ho1 hs1; have G1 := Lib.hid g1; have G2 := Lib.hid g2; have G3 := Lib.hid g3; clear g1 g2 g3 g4 g5)
              have hs7 := HBR.out.size
              have hs8 := HS1.out
              have h8 := HBR.out.trans (HAL2.out.mono hs7)
              refine ⟨⟨k + 2, by go_num, by omega, acc ++ [39], ?_, fun q hq => ?_, HQ.out, ?_, ?_⟩, by (simp [intOf]) <;> omega⟩
              · rw [List.length_append, by8_append]; exact G1.out
              · rcases G3.out with h | h
                · rw [h] at hq; exact HNEW.out q hq
                · rw [h] at hq
                  have : wr.heap.size + 1 = q := by simpa using hq
                  omega
              · rw [List.length_append]; simp only [List.length_cons, List.length_nil]; omega
              · exact h8.trans (G2.out.below h8.size (fun q hq => by have := HNEW.out q hq; omega))
            · rw [if_neg hd] at hq
              have hzd : (((s[k + 1]'hk1).toNat : Int) == 39) = false := by
                rw [hg1, beq_eq_false_iff_ne]
                intro h
                exact hd (UInt8.toNat_inj.1 (by show l[k + 1].toNat = 39; omega))
              have HO2 := fin hq
              clear hq hg hg1 h10 h39 h39b fin hd hkk hkl1 hm hmi hbb
              go_wp2
              refine bodyPost_ret (v := .tuple #[.agg #[.int .i64 2, .string ⟨acc.toArray⟩, .int .i64 0, .int .i64 0], .int .i64 ((k : Int) + 1), .bool bb]) (by simp [results, Try.results23, go_sem, z0, z1, z2, z3]) rfl ⟨by rw [HO2.out], ?_⟩
              exact HFIN.out _ _ _ _
          · have hd : l.drop (k + 1) = [] := List.drop_eq_nil_of_le (by rw [← HSZ.out]; omega)
            rw [hd] at hq
            simp only at hq
            have hk1i : decide ((k : Int) + 1 < (s.size : Int)) = false := decide_eq_false (by omega)
            have HO2 := fin hq
            clear hq hg h10 h39 h39b fin hd hkk hbb
            go_wp2
            refine bodyPost_ret (v := .tuple #[.agg #[.int .i64 2, .string ⟨acc.toArray⟩, .int .i64 0, .int .i64 0], .int .i64 ((k : Int) + 1), .bool bb]) (by simp [results, Try.results23, go_sem, z0, z1, z2, z3]) rfl ⟨by rw [HO2.out], ?_⟩
            exact HFIN.out _ _ _ _
    · have hd : l.drop k = [] := List.drop_eq_nil_of_le (by rw [← HSZ.out]; omega)
      have hke : k = s.size := by omega
      subst hke
      rw [hd] at hq
      have HO2 : Hid (TookF out = .tuple #[.agg #[.int .i64 0, .string ⟨#[]⟩, .int .i64 0, .int .i64 0], .int .i64 0, .bool false]) := by
        rw [← hq]; exact Lib.hid rfl
      clear hq hd
      go_wp2
      refine bodyPost_ret (v := .tuple #[.agg #[.int .i64 0, .string ⟨#[]⟩, .int .i64 0, .int .i64 0], .int .i64 0, .bool false]) (by simp [results, Try.results23, go_sem, z0, z1, z2, z3]) rfl ⟨by rw [HO2.out], ?_⟩
      exact HFIN.out _ _ _ _
end Go.Proofs.Ytjbocnofkaffjaa
