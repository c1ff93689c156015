/- Words: lex.Words. -/
import Derived.Test.YtjbocnofkaffjaaLxE
import Derived.IntWalk
namespace Go.Proofs.Ytjbocnofkaffjaa
open Go.RowKit Go.Afx

def wvCells (w : WV) : List Value := [.int .i64 w.kind, .string ⟨w.text.toArray⟩, .int .i64 w.n, .int .i64 w.at_]
def wvList (l : List WV) : List Value := (l.map wvCells).flatten
theorem wvList_append (a b : List WV) : wvList (a ++ b) = wvList a ++ wvList b := by simp [wvList]
theorem elemWord : Elem Try.prog 22 28 4 40 (.agg #[.int .i64 0, .string ⟨#[]⟩, .int .i64 0, .int .i64 0]) :=
  ⟨Try.underlying22, by kernel_rfl, rfl, by omega, by intro u hu; simp [Value.cells] at hu; rcases hu with rfl | rfl | rfl | rfl <;> rfl⟩
/-- What Words answers. -/
def WordsOut (w : World) (tot : Option (List WV) × Nat) (e : Ending) (w' : World) : Prop :=
  Below w.heap.size w w' ∧ ((∃ ws v, tot.1 = some ws ∧ e = .returned (.tuple #[v, .int .i64 0, .int .i64 0]) ∧ Sl w' (fun k => w.heap.size ≤ k) 4 v ws.length (wvList ws)) ∨ (tot.1 = none ∧ e = .returned (.tuple #[.slice none 0 0, .int .i64 (tot.2 : Nat), .int .i64 12])))
def WordsSt (w : World) (l : List UInt8) (tot : Option (List WV) × Nat) (k : Nat) (v : Value) (wr : World) : Prop :=
  ∃ (acc : List WV) (f : Nat), Own wr 28 4 v acc.length (wvList acc) ∧ (∀ q, v.ownBlock = some q → w.heap.size ≤ q) ∧ ((wordsF lxNum lxNam f k (l.drop k)).1.map (acc ++ ·), (wordsF lxNum lxNam f k (l.drop k)).2) = tot ∧ l.length - k < f ∧ acc.length ≤ k ∧ Below w.heap.size w wr

set_option maxRecDepth 100000 in
set_option maxHeartbeats 4000000 in
theorem words_any (w : World) (s : ByteArray) (l : List UInt8) (hs : s.data.toList = l) (hl : l.length ≤ 8000) :
    Calls Try.prog 6 #[.string s] w (WordsOut w (wordsAll lxNum lxNam l)) := by
  have hsz := size_list s l hs
  have HS := Lib.hid hs
  have hbl := blank_any w s l hs (by omega)
  have hgb := (gap_blank _ l (Nat.le_refl _)).1
  have htot : wordsAll lxNum lxNam l = wordsF lxNum lxNam (l.length + 1) (blankN l) (l.drop (blankN l)) := rfl
  have hbn : blankN l ≤ l.length := hgb
  generalize wordsAll lxNum lxNam l = tot at *
  generalize blankN l = b0 at *
  have HTOT := Lib.hid htot
  have HBL := Lib.hid hbl
  have HSZ := Lib.hid hsz
  have hsl : s.size ≤ 8000 := by omega
  have hb0 : b0 ≤ s.size := by omega
  have d8 : decide ((8000 : Int) < (s.size : Int)) = false := decide_eq_false (by omega)
  clear hs hbl hgb htot hsz hbn
  go_enter Try.func6, Try.ntmps6
  go_wp2_with (go_at_call 13; refine HBL.out.mono ?_; clear HBL; rintro e w2 ⟨rfl, rfl⟩)
  clear d8
  go_loopw [5, 6] (fun v i wr => ∃ k : Nat, i = .int .i64 k ∧ k ≤ s.size ∧ WordsSt w2 l tot k v wr) (fun _ i _ => s.size - (intOf i).toNat)
  case atStart =>
    refine ⟨b0, rfl, hb0, [], l.length + 1, Own.nil _ _ _, by simp [Value.ownBlock], ?_, by omega, Nat.zero_le _, Below.refl _ _⟩
    rw [HTOT.out]
    cases wordsF lxNum lxNam (l.length + 1) b0 (l.drop b0) with
    | mk o j => cases o <;> simp
  case round =>
    obtain ⟨k, rfl, hk, acc, f, hown, hnew, hw, hf, hak, hbr⟩ := hrel
    obtain ⟨pv, cv, rfl, hcv1, hcv2⟩ := own_form hown
    have HOWN := Lib.hid hown
    have HNEW := Lib.hid hnew
    have HBR := Lib.hid hbr
    clear hown hnew hbr
    by_cases hka : k < s.size
    · have hkl : k < l.length := by rw [← HSZ.out]; exact hka
      obtain ⟨f, rfl⟩ : ∃ f', f = f' + 1 := ⟨f - 1, by omega⟩
      have hdr : l.drop k = l[k] :: l.drop (k + 1) := List.drop_eq_getElem_cons hkl
      obtain ⟨c, hc⟩ : ∃ c, l[k] = c := ⟨_, rfl⟩
      obtain ⟨u, hu⟩ : ∃ u, l.drop (k + 1) = u := ⟨_, rfl⟩
      rw [hc, hu] at hdr
      have hTl := ext_list s l HS.out k
      rw [hdr] at hTl
      have hlen : (c :: u).length = l.length - k := by rw [← hdr, List.length_drop]
      have HN := Lib.hid (next_any wr (s.extract k s.size) c u hTl (by omega))
      have hw1 := hw
      rw [hdr, wordsF] at hw1
      have hsp : ∀ w0 n0, nextF lxNum lxNam (c :: u) = (w0, n0, true) → n0 ≤ (c :: u).length ∧ 1 ≤ n0 := fun w0 n0 h => by
        obtain ⟨_, h2, _, h4⟩ := next_span lxNum lxNam (c :: u) w0 n0 h
        exact ⟨h2, h4⟩
      generalize nextF lxNum lxNam (c :: u) = r at *
      obtain ⟨⟨kd, tx, nn, a⟩, m, ok⟩ := r
      simp only [TookF, wvAgg] at HN
      simp only at hw1
      cases ok
      · rw [if_neg (by decide)] at hw1
        have ht1 : tot.1 = none ∧ tot.2 = k := by rw [← hw1]; exact ⟨rfl, rfl⟩
        have HT1 := Lib.hid ht1
        clear hw hw1 hsp hTl hdr hc hu ht1
        generalize (⟨tx.toArray⟩ : ByteArray) = T at *
        go_wp2_with (go_at_call 14; refine HN.out.mono ?_; clear HN; rintro e w3 ⟨rfl, hb3⟩; have HB3 := Lib.hid (HBR.out.trans (hb3.mono HBR.out.size)); clear hb3)
        refine bodyPost_ret (v := .tuple #[.slice none 0 0, .int .i64 k, .int .i64 12]) (by simp [results, Try.results6, go_sem]) rfl ⟨HB3.out.alloc HB3.out.size _, .inr ⟨HT1.out.1, ?_⟩⟩
        rw [HT1.out.2]
      · rw [if_pos rfl] at hw1
        obtain ⟨hm1, hm2⟩ := hsp _ _ rfl
        have hmk : k + m ≤ l.length := by omega
        have hd2 : l.drop (k + m) = (c :: u).drop m := by rw [← hdr, List.drop_drop]
        have hbN : blankF ((c :: u).drop m).length ((c :: u).drop m) = blankN (l.drop (k + m)) := by rw [hd2]; rfl
        have hgb2 := (gap_blank _ (l.drop (k + m)) (Nat.le_refl _)).1
        have hgb3 : blankN (l.drop (k + m)) ≤ l.length - (k + m) := by rw [← List.length_drop]; exact hgb2
        rw [hbN, ← hd2, List.drop_drop] at hw1
        have HBLK := Lib.hid (fun W : World => blank_any W (s.extract (k + m) s.size) (l.drop (k + m)) (ext_list s l HS.out (k + m)) (by rw [List.length_drop]; omega))
        generalize blankN (l.drop (k + m)) = b2 at *
        have HW : Hid (((wordsF lxNum lxNam f (k + m + b2) (l.drop (k + m + b2))).1.map ((acc ++ [⟨kd, tx, nn, (k : Int)⟩]) ++ ·), (wordsF lxNum lxNam f (k + m + b2) (l.drop (k + m + b2))).2) = tot) := by
          rw [← hw1]
          cases wordsF lxNum lxNam f (k + m + b2) (l.drop (k + m + b2)) with
          | mk o j => cases o <;> exact Lib.hid (by simp)
        clear hw hw1 hsp hTl hdr hc hu hd2 hbN hgb2
        have hst : wvList [⟨kd, tx, nn, (k : Int)⟩] = [.int .i64 kd, .string ⟨tx.toArray⟩, .int .i64 nn, .int .i64 k] := rfl
        have HST := Lib.hid hst
        clear hst
        generalize hT : (⟨tx.toArray⟩ : ByteArray) = T at *
        clear hT
        go_wp2_with fail
        refine HN.out.mono ?_
        clear HN
        rintro e w3 ⟨rfl, hb3⟩
        have HB3 := Lib.hid hb3
        clear hb3
        have hkms : k + m ≤ s.size := by rw [HSZ.out]; exact hmk
        have hwr : IntKind.i64.wrap ((k : Int) + (m : Int)) = ((k + m : Nat) : Int) := by
          rw [IntWalk.i64_in _ (by omega)]; omega
        have hkq : k < k + m := by omega
        generalize k + m = q at *
        have hqb : q + b2 ≤ s.size := by rw [HSZ.out]; omega
        have hwr2 : IntKind.i64.wrap ((q : Int) + (b2 : Int)) = ((q + b2 : Nat) : Int) := by
          rw [IntWalk.i64_in _ (by omega)]; omega
        have hsA : (w3.alloc (.cells #[.int .i64 kd, .string T, .int .i64 nn, .int .i64 k] 28)).heap.size = w3.heap.size + 1 := by simp
        have hal2 : Below w3.heap.size w3 ((w3.alloc (.cells #[.int .i64 kd, .string T, .int .i64 nn, .int .i64 k] 28)).alloc (.cells #[.int .i64 kd, .string T, .int .i64 nn, .int .i64 k] 28)) := ((Below.refl _ _).alloc (Nat.le_refl _) _).alloc (by omega) _
        have ho1 := (HOWN.out.below HB3.out).below hal2
        have hs0 := (Own.made (w3.alloc (.cells #[.int .i64 kd, .string T, .int .i64 nn, .int .i64 k] 28)) 28 4 [.int .i64 kd, .string T, .int .i64 nn, .int .i64 k] [] 1 1 rfl (by intro u hu; simp at hu; rcases hu with rfl | rfl | rfl | rfl <;> rfl) (Nat.le_refl _) (by simp [maxLen]) (by simp)).sl (B := fun _ => True) (fun _ _ => trivial)
        rw [hsA] at hs0
        have hs1 : Sl ((w3.alloc (.cells #[.int .i64 kd, .string T, .int .i64 nn, .int .i64 k] 28)).alloc (.cells #[.int .i64 kd, .string T, .int .i64 nn, .int .i64 k] 28)) (fun _ => True) 4 (.slice (some ⟨w3.heap.size + 1, 0, none⟩) 1 1) 1 (wvList [⟨kd, tx, nn, (k : Int)⟩]) := by rw [HST.out]; exact hs0
        have hsB : ((w3.alloc (.cells #[.int .i64 kd, .string T, .int .i64 nn, .int .i64 k] 28)).alloc (.cells #[.int .i64 kd, .string T, .int .i64 nn, .int .i64 k] 28)).heap.size = w3.heap.size + 2 := by simp
        have HSB := Lib.hid hsB
        have HAL2 := Lib.hid hal2
        clear hal2 hsB hsA hs0
        go_wp2_with (first
          | (at_builtin; refine wpList_app rfl _ _ rfl elemWord (by rfl) ho1 (by rfl) hs1 (by unfold maxLen; omega) (by omega) ?_; intro v1 w7 g1 g2 g3 g4 g5; clear ho1 hs1; have G1 := Lib.hid g1; have G2 := Lib.hid g2; have G3 := Lib.hid g3; clear g1 g2 g3 g4 g5)
          | (go_at_call 13; refine (HBLK.out _).mono ?_; rintro e w8 ⟨rfl, rfl⟩))
        have hb3 := HBR.out.trans (HB3.out.mono HBR.out.size)
        have h8 := hb3.trans (HAL2.out.mono hb3.size)
        refine ⟨⟨q + b2, by first | rfl | go_num, by omega, acc ++ [⟨kd, tx, nn, (k : Int)⟩], f, ?_, fun q hq => ?_, HW.out, by omega, ?_, ?_⟩, by (simp [intOf]) <;> omega⟩
        · rw [List.length_append, wvList_append]; exact G1.out
        · rcases G3.out with h | h
          · rw [h] at hq; exact HNEW.out q hq
          · rw [h, HSB.out] at hq
            have : w3.heap.size + 2 = q := by simpa using hq
            have := hb3.size
            omega
        · rw [List.length_append]; simp only [List.length_cons, List.length_nil]; omega
        · exact h8.trans (G2.out.below h8.size (fun q hq => HNEW.out q hq))
    · obtain rfl : k = s.size := by omega
      have hd : l.drop s.size = [] := List.drop_eq_nil_of_le (by rw [HSZ.out]; exact Nat.le_refl _)
      rw [hd] at hw
      obtain ⟨f, rfl⟩ : ∃ f', f = f' + 1 := ⟨f - 1, by omega⟩
      have ht : tot.1 = some acc := by rw [← hw]; simp [wordsF]
      have HT := Lib.hid ht
      clear hw hd ht
      go_wp2
      exact bodyPost_ret (v := .tuple #[.slice pv acc.length cv, .int .i64 0, .int .i64 0]) (by simp [results, Try.results6, go_sem]) rfl ⟨HBR.out, .inl ⟨acc, _, HT.out, rfl, HOWN.out.sl HNEW.out⟩⟩
end Go.Proofs.Ytjbocnofkaffjaa
