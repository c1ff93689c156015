/- The row of a key: Unkey. -/
import Derived.Test.YtlgohkdckdnmhaaDoorUkA
namespace Go.Proofs.YtlgohkdckdnmhaaDoor
open Go.RowKit Go.Afx

theorem elemAV : Elem Tryd.prog 22 27 3 32 (.agg #[.int .i64 0, .int .i64 0, .string ⟨#[]⟩]) :=
  ⟨Tryd.underlying22, by kernel_rfl, rfl, by omega, by intro u hu; simp [Value.cells] at hu; rcases hu with rfl | rfl | rfl <;> rfl⟩
theorem rowCells_append (a b : List AV) : rowCells (a ++ b) = rowCells a ++ rowCells b := by simp [rowCells]
def strLen : Value → Nat
  | .string s => s.size
  | _ => 0
/-- What Unkey answers. -/
def UnkOut (w : World) (tot : Option (List AV)) (e : Ending) (w' : World) : Prop :=
  Below w.heap.size w w' ∧ ((tot = none ∧ e = .returned (.tuple #[.slice none 0 0, .bool false])) ∨ ∃ l v, tot = some l ∧ e = .returned (.tuple #[v, .bool true]) ∧ Sl w' (fun k => w.heap.size ≤ k) 3 v l.length (rowCells l))
def UnkSt (w : World) (tot : Option (List AV)) (N : Nat) (rest : List UInt8) (v : Value) (wr : World) : Prop :=
  ∃ (acc : List AV) (f : Nat), Own wr 27 3 v acc.length (rowCells acc) ∧ (∀ q, v.ownBlock = some q → w.heap.size ≤ q) ∧ (unkF f rest).map (acc ++ ·) = tot ∧ rest.length < f ∧ acc.length + rest.length ≤ N ∧ Below w.heap.size w wr
theorem own_form3 {w : World} {e : TypeId} {sz : Nat} {v : Value} {n : Nat} {cs : List Value} (h : Own w e sz v n cs) : ∃ p cap, v = .slice p n cap ∧ n ≤ cap ∧ cap ≤ 9223372036854775807 :=
  (h.sl (B := fun _ => True) fun _ _ => trivial).form
theorem one_av (w : World) (v : AV) : Sl (w.alloc (.cells #[.int .i64 v.kind, .int .i64 v.n, .string v.s] 27)) (fun _ => True) 3 (.slice (some ⟨w.heap.size, 0, none⟩) 1 1) 1 (rowCells [v]) := by
  have := Own.made w 27 3 (rowCells [v]) [] 1 1 rfl (by intro u hu; simp [rowCells, AV.cells] at hu; rcases hu with rfl | rfl | rfl <;> rfl) (Nat.le_refl _) (by simp [maxLen]) (by simp [rowCells, AV.cells])
  exact this.sl (fun _ _ => trivial)

set_option maxRecDepth 100000 in
set_option maxHeartbeats 4000000 in
theorem unkey_any (w : World) (s : ByteArray) (l : List UInt8) (hs : s.data.toList = l) (hl : l.length ≤ 13000) :
    Calls Tryd.prog 25 #[.string s] w (UnkOut w (unkB l)) := by
  obtain ⟨tot, htot⟩ : ∃ tot, unkB l = tot := ⟨_, rfl⟩
  rw [htot]
  have HTOT := Lib.hid htot
  have hss : s = bs l := by rw [← hs]; rfl
  subst hss
  clear hs htot
  go_enter Tryd.func25, Tryd.ntmps25
  go_wp2
  go_loopw [0, 4] (fun s v wr => ∃ rest : List UInt8, s = .string (bs rest) ∧ rest.length ≤ 13000 ∧ UnkSt w tot l.length rest v wr) (fun s _ _ => strLen s)
  case atStart =>
    refine ⟨l, rfl, hl, [], l.length + 1, Own.nil _ _ _, by simp [Value.ownBlock], ?_, by omega, by simp, Below.refl _ _⟩
    rw [← HTOT.out]
    unfold unkB
    cases unkF (l.length + 1) l <;> simp
  case round =>
    obtain ⟨rest, rfl, hrl, acc, f, hown, hnew, hacc, hf, hN, hbr⟩ := hrel
    obtain ⟨pv, cv, rfl, hcv1, hcv2⟩ := own_form3 hown
    have HOWN := Lib.hid hown
    have HNEW := Lib.hid hnew
    have HBR := Lib.hid hbr
    have HACC := Lib.hid hacc
    clear hown hnew hbr hacc
    obtain ⟨f, rfl⟩ : ∃ g, f = g + 1 := ⟨f - 1, by omega⟩
    cases rest with
    | nil =>
      have hz : ((bs []).toList == []) = true := by rw [bs_toList]; rfl
      have hac := HACC.out
      have HT : Hid (tot = some acc) := by
        show _ = _
        rw [← hac]; simp [unkF]
      clear hac
      generalize bs [] = S at *
      go_wp2
      exact bodyPost_ret (v := .tuple #[.slice pv acc.length cv, .bool true]) (by simp [results, Tryd.results25, go_sem]) rfl ⟨HBR.out, .inr ⟨acc, _, HT.out, rfl, HOWN.out.sl HNEW.out⟩⟩
    | cons c t =>
      have hz : ((bs (c :: t)).toList == []) = false := by rw [bs_toList]; rfl
      have HT := Lib.hid (fun w => take_any w (bs (c :: t)) c t (bs_data _) (by omega))
      have hac := HACC.out
      rw [unkF] at hac
      have hst : stepK (c :: t) = if (takeF (c :: t)).2.2 && (takeF (c :: t)).1.right then some ((takeF (c :: t)).1, (takeF (c :: t)).2.1) else none := rfl
      have hsome : ∀ v r, stepK (c :: t) = some (v, r) → r.length < (c :: t).length := fun v r h => (stepK_some h).2.2.2
      have hsb := bs_size (c :: t)
      generalize takeF (c :: t) = p at *
      obtain ⟨v, r, ok⟩ := p
      simp only [takeT, AV.agg] at HT
      simp only at hst
      have HW := Lib.hid (fun w => wrong_any w v)
      simp only [AV.agg] at HW
      cases ok
      · rw [Bool.false_and, if_neg (by decide)] at hst
        rw [hst] at hac
        have HTN : Hid (tot = none) := Eq.symm hac
        clear hac hst hsome
        generalize bs (c :: t) = S at *
        go_wp2_with fail
        refine (HT.out _).mono ?_
        rintro e w2 ⟨rfl, hb2⟩
        have HB2 := Lib.hid (HBR.out.trans (hb2.mono HBR.out.size))
        clear hb2
        go_wp2
        exact bodyPost_ret (v := .tuple #[.slice none 0 0, .bool false]) (by simp [results, Tryd.results25, go_sem]) rfl ⟨HB2.out.alloc HB2.out.size _, .inl ⟨HTN.out, rfl⟩⟩
      · rw [Bool.true_and] at hst
        cases hr : v.right
        · rw [hr] at hst HW
          rw [if_neg (by decide)] at hst
          rw [hst] at hac
          have HTN : Hid (tot = none) := Eq.symm hac
          clear hac hst hsome hr
          generalize bs (c :: t) = S at *
          go_wp2_with fail
          refine (HT.out _).mono ?_
          rintro e w2 ⟨rfl, hb2⟩
          have hb3 := HBR.out.trans (hb2.mono HBR.out.size)
          have HB3 := Lib.hid (hb3.alloc hb3.size (.cells #[.int .i64 v.kind, .int .i64 v.n, .string v.s] 27))
          clear hb2 hb3
          go_wp2_with fail
          refine (HW.out _).mono ?_
          rintro e w4 ⟨rfl, hb4⟩
          have HB4 := Lib.hid (HB3.out.trans (hb4.mono HB3.out.size))
          clear hb4
          go_wp2
          exact bodyPost_ret (v := .tuple #[.slice none 0 0, .bool false]) (by simp [results, Tryd.results25, go_sem]) rfl ⟨HB4.out, .inl ⟨HTN.out, rfl⟩⟩
        · rw [hr] at hst HW
          rw [if_pos rfl] at hst
          have hrlt := hsome _ _ hst
          rw [hst] at hac
          simp only at hac
          have HA2 : Hid ((unkF f r).map ((acc ++ [v]) ++ ·) = tot) := by
            show _ = _
            rw [← hac]
            cases unkF f r <;> simp
          have hrs := bs_size r
          clear hac hst hsome hr
          generalize bs (c :: t) = S at *
          generalize hR : bs r = R at *
          have HRR := Lib.hid hR
          clear hR
          go_wp2_with fail
          refine (HT.out _).mono ?_
          rintro e w2 ⟨rfl, hb2⟩
          have hb3 := HBR.out.trans (hb2.mono HBR.out.size)
          have hal3 : Below wr.heap.size wr (w2.alloc (.cells #[.int .i64 v.kind, .int .i64 v.n, .string v.s] 27)) := hb2.alloc hb2.size _
          have HX3 := Lib.hid hal3
          have HB3 := Lib.hid (hb3.alloc hb3.size (.cells #[.int .i64 v.kind, .int .i64 v.n, .string v.s] 27))
          have HK3 := Lib.hid (Blk.new w2 27 [.int .i64 v.kind, .int .i64 v.n, .string v.s])
          clear hb2 hb3 hal3
          go_wp2_with fail
          refine (HW.out _).mono ?_
          rintro e w4 ⟨rfl, hb4⟩
          have HX4 := Lib.hid (HX3.out.trans (hb4.mono HX3.out.size))
          have HB4 := Lib.hid (HB3.out.trans (hb4.mono HB3.out.size))
          obtain ⟨a0, a1, a2, _⟩ := blk3 (HK3.out.below hb4)
          have hal5 : Below wr.heap.size wr (w4.alloc (.cells #[.int .i64 v.kind, .int .i64 v.n, .string v.s] 27)) := HX4.out.alloc HX4.out.size _
          have ho1 := HOWN.out.below hal5
          have hs1 := one_av w4 v
          have HX5 := Lib.hid hal5
          clear hb4 hal5
          go_wp2_with (at_builtin; refine wpList_app rfl _ _ rfl elemAV (by rfl) ho1 (by rfl) hs1 (by unfold maxLen; omega) (by omega) ?_; intro v1 w7 g1 g2 g3 g4 g5; clear ho1 hs1; have G1 := Lib.hid g1; have G2 := Lib.hid g2; have G3 := Lib.hid g3; clear g1 g2 g3 g4 g5)
          rw [List.length_cons] at hrl hN hf hrlt hsb
          have h8 := HB4.out.size
          have h9 : w.heap.size ≤ wr.heap.size := HBR.out.size
          have h10 := HX4.out.size
          refine ⟨⟨r, by rw [HRR.out], by omega, acc ++ [v], f, ?_, fun q hq => ?_, HA2.out, by omega, by rw [List.length_append]; simp only [List.length_cons, List.length_nil]; omega, ?_⟩, by show R.size < S.size; omega⟩
          · rw [List.length_append, rowCells_append]; exact G1.out
          · rcases G3.out with h | h
            · rw [h] at hq; exact HNEW.out q hq
            · rw [h] at hq
              have : w4.heap.size + 1 = q := by simpa using hq
              omega
          · exact (HBR.out.trans (HX5.out.mono HBR.out.size)).trans (G2.out.below (by have := HX5.out.size; omega) (fun q hq => HNEW.out q hq))
end Go.Proofs.YtlgohkdckdnmhaaDoor
