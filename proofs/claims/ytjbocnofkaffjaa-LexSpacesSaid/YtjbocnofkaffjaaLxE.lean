/- Words: signs, next. -/
import Derived.Test.YtjbocnofkaffjaaLxD
namespace Go.Proofs.Ytjbocnofkaffjaa
open Go.RowKit Go.Afx

def sgStr (l : List (List UInt8)) : List Value := l.map fun s => .string ⟨s.toArray⟩
set_option maxRecDepth 100000 in
theorem signs_any (w : World) : Calls Try.prog 24 #[] w fun e w' => e = .returned (.slice (some ⟨w.heap.size, 0, none⟩) 21 21) ∧ Blk w' w.heap.size 9 (sgStr signsL) ∧ Below w.heap.size w w' := by
  go_enter Try.func24, Try.ntmps24
  go_wp2
  go_ret
  exact ⟨rfl, Blk.new w 9 (sgStr signsL), (Below.refl _ _).alloc (Nat.le_refl _) _⟩
theorem find_next {α : Type} (p : α → Bool) (l : List α) (k : Nat) (hk : k < l.length) (h : (l.take k).find? p = none) (hp : p l[k] = false) : (l.take (k + 1)).find? p = none := by
  rw [List.take_succ_eq_append_getElem hk, List.find?_append, h]
  simp [hp]
theorem find_hit {α : Type} (p : α → Bool) (l : List α) (k : Nat) (hk : k < l.length) (h : (l.take k).find? p = none) (hp : p l[k] = true) : l.find? p = some l[k] := by
  have h2 : l = l.take k ++ (l[k] :: l.drop (k + 1)) := by rw [← List.drop_eq_getElem_cons hk, List.take_append_drop]
  have h3 : (l.take k ++ (l[k] :: l.drop (k + 1))).find? p = some l[k] := by
    rw [List.find?_append, h, List.find?_cons, hp]; rfl
  rw [← h2] at h3
  exact h3

set_option maxRecDepth 100000 in
set_option maxHeartbeats 4000000 in
theorem next_any (w : World) (s : ByteArray) (c : UInt8) (t : List UInt8) (hs : s.data.toList = c :: t) (hl : (c :: t).length ≤ 10000) :
    Calls Try.prog 14 #[.string s] w fun e w' => e = .returned (TookF (nextF lxNum lxNam (c :: t))) ∧ Below w.heap.size w w' := by
  have hsz := size_list s _ hs
  have hs0 : 0 < s.size := by rw [hsz]; simp
  have hg0 : (s[0]'hs0) = c := by rw [get_list s _ hs 0 hs0 (by simp)]; rfl
  have hgi : ((s[0]'hs0).toNat : Int) = (c.toNat : Int) := by rw [hg0]
  have hpa : ∀ W, Calls Try.prog 21 #[.int .u8 ((s[0]'hs0).toNat : Int)] W fun e w' => e = .returned (.bool (lxPart c)) ∧ W = w' := fun W => by
    have := lxpart_any W (s[0]'hs0)
    rw [hg0] at this
    rw [hgi]; exact this
  have HPA := Lib.hid hpa
  have hal : Below w.heap.size w (w.alloc (.cells #[.int .i64 0, .string ⟨#[]⟩, .int .i64 0, .int .i64 0] 28)) := (Below.refl _ _).alloc (Nat.le_refl _) _
  have HK := Lib.hid (Blk.new w 28 [.int .i64 0, .string ⟨#[]⟩, .int .i64 0, .int .i64 0])
  have HAL := Lib.hid hal
  have HS := Lib.hid hs
  obtain ⟨out, hout⟩ : ∃ out, nextF lxNum lxNam (c :: t) = out := ⟨_, rfl⟩
  rw [hout]
  rw [nextF] at hout
  clear hpa hal hs hsz
  by_cases hp : lxPart c = true
  · rw [if_pos hp] at hout
    rw [hp] at HPA
    have HP := Lib.hid (fun W : World => plain_any W s c t HS.out hp hl)
    rw [hout] at HP
    obtain ⟨⟨kd, tx, n, a⟩, m, ok⟩ := out
    simp only [TookF, wvAgg] at HP ⊢
    clear hout hp hg0 hgi
    generalize (⟨tx.toArray⟩ : ByteArray) = T at *
    go_enter Try.func14, Try.ntmps14
    go_wp2_with fail
    generalize hw1 : w.alloc (.cells #[.int .i64 0, .string ⟨#[]⟩, .int .i64 0, .int .i64 0] 28) = w1 at *
    clear hw1
    go_wp2_with (first
      | (go_at_call 21; refine (HPA.out _).mono ?_; clear HPA; rintro e w3 ⟨rfl, rfl⟩)
      | fail)
    refine (HP.out _).mono ?_
    clear HP
    rintro e w4 ⟨rfl, hb4⟩
    have hk4 := HK.out.below hb4
    have z0 : w4.cell? ⟨w.heap.size, 0, none⟩ = some (.int .i64 0) := hk4.cell 0
    have z1 : w4.cell? ⟨w.heap.size, 1, none⟩ = some (.string ⟨#[]⟩) := hk4.cell 1
    have z2 : w4.cell? ⟨w.heap.size, 2, none⟩ = some (.int .i64 0) := hk4.cell 2
    have z3 : w4.cell? ⟨w.heap.size, 3, none⟩ = some (.int .i64 0) := hk4.cell 3
    have kf : ∀ i, w4.frozen? ⟨w.heap.size, i, none⟩ = false := hk4.frozen
    have hbw := HAL.out.trans (hb4.mono HAL.out.size)
    have hfin : ∀ a b c2 d, Below w.heap.size w ((((w4.setCell ⟨w.heap.size, 0, none⟩ a).setCell ⟨w.heap.size, 1, none⟩ b).setCell ⟨w.heap.size, 2, none⟩ c2).setCell ⟨w.heap.size, 3, none⟩ d) := fun a b c2 d =>
      (((hbw.setCell (p := ⟨w.heap.size, 0, none⟩) (by simp) _).setCell (p := ⟨w.heap.size, 1, none⟩) (by simp) _).setCell (p := ⟨w.heap.size, 2, none⟩) (by simp) _).setCell (p := ⟨w.heap.size, 3, none⟩) (by simp) _
    have HFIN := Lib.hid hfin
    clear hk4 hbw hb4 hfin
    go_wp2
    refine bodyPost_ret (v := .tuple #[.agg #[.int .i64 kd, .string T, .int .i64 n, .int .i64 a], .int .i64 m, .bool ok]) (by simp [results, Try.results14, go_sem, z0, z1, z2, z3]) rfl ⟨rfl, ?_⟩
    exact HFIN.out _ _ _ _
  · rw [if_neg hp] at hout
    have hpf : lxPart c = false := Bool.eq_false_iff.2 hp
    rw [hpf] at HPA
    by_cases h39 : c = 39
    · rw [if_pos h39] at hout
      have hz39 : (((s[0]'hs0).toNat : Int) == 39) = true := by rw [hgi, h39]; rfl
      have HP := Lib.hid (fun W : World => quoted_any W s c t HS.out hl)
      rw [hout] at HP
      obtain ⟨⟨kd, tx, n, a⟩, m, ok⟩ := out
      simp only [TookF, wvAgg] at HP ⊢
      clear hout hp hpf hg0 hgi h39
      generalize (⟨tx.toArray⟩ : ByteArray) = T at *
      go_enter Try.func14, Try.ntmps14
      go_wp2_with fail
      generalize hw1 : w.alloc (.cells #[.int .i64 0, .string ⟨#[]⟩, .int .i64 0, .int .i64 0] 28) = w1 at *
      clear hw1
      go_wp2_with (first
        | (go_at_call 21; refine (HPA.out _).mono ?_; clear HPA; rintro e w3 ⟨rfl, rfl⟩)
        | fail)
      refine (HP.out _).mono ?_
      clear HP
      rintro e w4 ⟨rfl, hb4⟩
      have hk4 := HK.out.below hb4
      have z0 : w4.cell? ⟨w.heap.size, 0, none⟩ = some (.int .i64 0) := hk4.cell 0
      have z1 : w4.cell? ⟨w.heap.size, 1, none⟩ = some (.string ⟨#[]⟩) := hk4.cell 1
      have z2 : w4.cell? ⟨w.heap.size, 2, none⟩ = some (.int .i64 0) := hk4.cell 2
      have z3 : w4.cell? ⟨w.heap.size, 3, none⟩ = some (.int .i64 0) := hk4.cell 3
      have kf : ∀ i, w4.frozen? ⟨w.heap.size, i, none⟩ = false := hk4.frozen
      have hbw := HAL.out.trans (hb4.mono HAL.out.size)
      have hfin : ∀ a b c2 d, Below w.heap.size w ((((w4.setCell ⟨w.heap.size, 0, none⟩ a).setCell ⟨w.heap.size, 1, none⟩ b).setCell ⟨w.heap.size, 2, none⟩ c2).setCell ⟨w.heap.size, 3, none⟩ d) := fun a b c2 d =>
        (((hbw.setCell (p := ⟨w.heap.size, 0, none⟩) (by simp) _).setCell (p := ⟨w.heap.size, 1, none⟩) (by simp) _).setCell (p := ⟨w.heap.size, 2, none⟩) (by simp) _).setCell (p := ⟨w.heap.size, 3, none⟩) (by simp) _
      have HFIN := Lib.hid hfin
      clear hk4 hbw hb4 hfin
      go_wp2
      refine bodyPost_ret (v := .tuple #[.agg #[.int .i64 kd, .string T, .int .i64 n, .int .i64 a], .int .i64 m, .bool ok]) (by simp [results, Try.results14, go_sem, z0, z1, z2, z3]) rfl ⟨rfl, ?_⟩
      exact HFIN.out _ _ _ _
    · rw [if_neg h39] at hout
      have hz39 : (((s[0]'hs0).toNat : Int) == 39) = false := by
        rw [hgi, beq_eq_false_iff_ne]
        intro h
        exact h39 (UInt8.toNat_inj.1 (by show c.toNat = 39; omega))
      clear hp hpf hg0 hgi h39
      have HOUT := Lib.hid hout
      clear hout
      go_enter Try.func14, Try.ntmps14
      go_wp2_with fail
      generalize hw1 : w.alloc (.cells #[.int .i64 0, .string ⟨#[]⟩, .int .i64 0, .int .i64 0] 28) = w1 at *
      clear hw1
      go_wp2_with (first
        | (go_at_call 21; refine (HPA.out _).mono ?_; clear HPA; rintro e w3 ⟨rfl, rfl⟩)
        | (go_at_call 24; refine (signs_any _).mono ?_; rintro e w4 ⟨rfl, hsg, hb4⟩; have HSG := Lib.hid hsg; have HB4 := Lib.hid hb4; clear hsg hb4)
        | fail)
      go_loopw [27] (fun i wr => ∃ k : Nat, i = .int .i64 k ∧ k ≤ 21 ∧ (signsL.take k).find? (fun s => s.isPrefixOf (c :: t)) = none ∧ wr = w4) (fun i _ => 21 - (intOf i).toNat)
      case atStart => exact ⟨0, rfl, Nat.zero_le _, rfl, rfl⟩
      case round =>
        obtain ⟨k, rfl, hk, hn, rfl⟩ := hrel
        obtain ⟨w4, rfl⟩ : ∃ w4 : World, w4 = wr := ⟨_, rfl⟩
        have hb4 := HB4.out
        have hk4 := HK.out.below hb4
        have z0 : w4.cell? ⟨w.heap.size, 0, none⟩ = some (.int .i64 0) := hk4.cell 0
        have z1 : w4.cell? ⟨w.heap.size, 1, none⟩ = some (.string ⟨#[]⟩) := hk4.cell 1
        have z2 : w4.cell? ⟨w.heap.size, 2, none⟩ = some (.int .i64 0) := hk4.cell 2
        have z3 : w4.cell? ⟨w.heap.size, 3, none⟩ = some (.int .i64 0) := hk4.cell 3
        have kf : ∀ i, w4.frozen? ⟨w.heap.size, i, none⟩ = false := hk4.frozen
        have hbw := HAL.out.trans (hb4.mono HAL.out.size)
        have hfin : ∀ a b c2 d, Below w.heap.size w ((((w4.setCell ⟨w.heap.size, 0, none⟩ a).setCell ⟨w.heap.size, 1, none⟩ b).setCell ⟨w.heap.size, 2, none⟩ c2).setCell ⟨w.heap.size, 3, none⟩ d) := fun a b c2 d =>
          (((hbw.setCell (p := ⟨w.heap.size, 0, none⟩) (by simp) _).setCell (p := ⟨w.heap.size, 1, none⟩) (by simp) _).setCell (p := ⟨w.heap.size, 2, none⟩) (by simp) _).setCell (p := ⟨w.heap.size, 3, none⟩) (by simp) _
        have HFIN := Lib.hid hfin
        clear hk4 hbw hb4 hfin
        by_cases hka : k < 21
        · have hkl : k < signsL.length := hka
          have e0 : w4.cell? ⟨w1.heap.size, k, none⟩ = some (.string ⟨signsL[k].toArray⟩) := by
            rw [HSG.out.cell k]
            unfold sgStr
            rw [List.getElem?_map, List.getElem?_eq_getElem hkl]; rfl
          have hpr := fun W : World => prefix_any s ⟨signsL[k].toArray⟩ W
          rw [HS.out] at hpr
          have hx1 := find_next (fun s => s.isPrefixOf (c :: t)) signsL k hkl hn
          have hx2 := find_hit (fun s => s.isPrefixOf (c :: t)) signsL k hkl hn
          have hsl := (signs_len signsL[k] (List.getElem_mem hkl))
          have hsz2 : (⟨signsL[k].toArray⟩ : ByteArray).size = signsL[k].length := size_list _ _ rfl
          have hpr2 : ∀ W, Calls Try.prog 20 #[.string s, .string ⟨signsL[k].toArray⟩] W fun e w' => e = .returned (.bool (signsL[k].isPrefixOf (c :: t))) ∧ w' = W := fun W => hpr W
          have HX1 := Lib.hid hx1
          have HX2 := Lib.hid hx2
          clear hpr hx1 hx2 hn
          cases hpx : signsL[k].isPrefixOf (c :: t)
          · rw [hpx] at hpr2
            have HPR := Lib.hid hpr2
            have HF := Lib.hid (HX1.out hpx)
            clear hpr2 HX1 HX2 hpx hsl hsz2
            generalize (⟨signsL[k].toArray⟩ : ByteArray) = S at *
            go_wp2_with (go_at_call 20; refine (HPR.out _).mono ?_; clear HPR; rintro e w5 ⟨rfl, rfl⟩)
            exact ⟨⟨k + 1, by go_num, by omega, HF.out, by first | rfl | trivial⟩, by (simp [intOf]) <;> omega⟩
          · rw [hpx] at hpr2
            have HPR := Lib.hid hpr2
            have hf := HX2.out hpx
            have hout := HOUT.out
            rw [hf] at hout
            have HO2 : Hid (TookF out = .tuple #[.agg #[.int .i64 0, .string ⟨signsL[k].toArray⟩, .int .i64 0, .int .i64 0], .int .i64 ((⟨signsL[k].toArray⟩ : ByteArray).size : Nat), .bool true]) := by
              rw [hsz2, ← hout]; exact Lib.hid rfl
            clear hpr2 HX1 HX2 hpx hsl hsz2 hf hout
            generalize (⟨signsL[k].toArray⟩ : ByteArray) = S at *
            go_wp2_with (go_at_call 20; refine (HPR.out _).mono ?_; clear HPR; rintro e w5 ⟨rfl, rfl⟩)
            refine bodyPost_ret (v := .tuple #[.agg #[.int .i64 0, .string S, .int .i64 0, .int .i64 0], .int .i64 (S.size : Nat), .bool true]) (by simp [results, Try.results14, go_sem, z0, z1, z2, z3]) rfl ⟨by rw [HO2.out], ?_⟩
            exact HFIN.out _ _ _ _
        · obtain rfl : k = 21 := by omega
          have hf : signsL.find? (fun s => s.isPrefixOf (c :: t)) = none := by
            have : signsL.take 21 = signsL := rfl
            rw [this] at hn; exact hn
          have hout := HOUT.out
          rw [hf] at hout
          have HO2 : Hid (TookF out = .tuple #[.agg #[.int .i64 0, .string ⟨#[]⟩, .int .i64 0, .int .i64 0], .int .i64 0, .bool false]) := by
            rw [← hout]; exact Lib.hid rfl
          clear hn hf hout
          go_wp2
          refine bodyPost_ret (v := .tuple #[.agg #[.int .i64 0, .string ⟨#[]⟩, .int .i64 0, .int .i64 0], .int .i64 0, .bool false]) (by simp [results, Try.results14, go_sem, z0, z1, z2, z3]) rfl ⟨by rw [HO2.out], ?_⟩
          exact HFIN.out _ _ _ _
end Go.Proofs.Ytjbocnofkaffjaa
