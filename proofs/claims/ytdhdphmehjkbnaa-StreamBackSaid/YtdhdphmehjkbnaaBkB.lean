/- Batches read: stream.Read. -/
import Derived.Test.YtdhdphmehjkbnaaBkA
import Derived.Test.YtdhdphmehjkbnaaBack
namespace Go.Proofs.Ytdhdphmehjkbnaa
open Go.RowKit Go.Afx

def BatV.data (b : BatV) : Int × List (List AV) := (b.id, b.rows.map RowV.l)
/-- One batch, and the reader behind it. -/
def rBat (cl : List ColV) (bad : Bool) (l : List UInt8) : (Int × List (List AV)) × Bool × List UInt8 :=
  if ((rSize 9223372036854775807 bad l).1 : Int) < 1 ∨ fitsB cl (rRows 32 8 (rSize 9223372036854775807 bad l).2.1 (rSize 9223372036854775807 bad l).2.2).1 = false then
    (((rSize 9223372036854775807 bad l).1, (rRows 32 8 (rSize 9223372036854775807 bad l).2.1 (rSize 9223372036854775807 bad l).2.2).1), true, [])
  else (((rSize 9223372036854775807 bad l).1, (rRows 32 8 (rSize 9223372036854775807 bad l).2.1 (rSize 9223372036854775807 bad l).2.2).1), (rRows 32 8 (rSize 9223372036854775807 bad l).2.1 (rSize 9223372036854775807 bad l).2.2).2)
theorem rBat_good (cl : List ColV) (bad : Bool) (l : List UInt8) (h : (rBat cl bad l).2.1 = false) : bad = false ∧ (rBat cl bad l).2.2.length + 1 ≤ l.length := by
  unfold rBat at *
  split at h
  · cases h
  · rename_i h0
    rw [if_neg h0]
    have h1 := rList_good (rRow 8) (fun bad l h => by have := rRow_good 8 bad l h; exact ⟨this.1, by omega⟩) 32 _ _ h
    have h2 := rSize_good _ bad l h1.1
    refine ⟨h2.1, ?_⟩
    have h3 := h1.2
    have h4 := h2.2
    have h5 : (rRows 32 8 (rSize 9223372036854775807 bad l).2.1 (rSize 9223372036854775807 bad l).2.2).2.2.length + 1 ≤ (rSize 9223372036854775807 bad l).2.2.length := h3
    show (rRows 32 8 (rSize 9223372036854775807 bad l).2.1 (rSize 9223372036854775807 bad l).2.2).2.2.length + 1 ≤ l.length
    omega
theorem rMany_len {α : Type} (f : Bool → List UInt8 → α × Bool × List UInt8) : ∀ n b l, (rMany f n b l).1.length ≤ n
  | 0, _, _ => Nat.le_refl _
  | n + 1, b, l => by
    unfold rMany
    cases b
    · rw [if_neg (by decide)]
      have := rMany_len f n (f false l).2.1 (f false l).2.2
      simp only [List.length_cons]; omega
    · exact Nat.zero_le _
theorem rMany_all {α : Type} (f : Bool → List UInt8 → α × Bool × List UInt8) (P : α → Prop) (hP : ∀ b l, P (f b l).1) : ∀ n b l, ∀ x ∈ (rMany f n b l).1, P x
  | 0, _, _, x, h => by cases h
  | n + 1, b, l, x, h => by
    unfold rMany at h
    cases b
    · rw [if_neg (by decide)] at h
      rcases List.mem_cons.1 h with h | h
      · subst h; exact hP _ _
      · exact rMany_all f P hP n _ _ x h
    · cases h
theorem rSize_le2 (most : Nat) (b : Bool) (l : List UInt8) : (rSize most b l).1 ≤ most := by
  unfold rSize
  simp only
  split
  · exact Nat.zero_le _
  · rename_i h
    simp only [not_or] at h
    omega
theorem rRow_len (b : Bool) (l : List UInt8) : (rRow 8 b l).1.length ≤ 8 := by
  unfold rRow rList
  simp only
  split
  · exact Nat.zero_le _
  · exact Nat.le_trans (rMany_len _ _ _ _) (rSize_le2 8 b l)
theorem rRows_len (b : Bool) (l : List UInt8) : ∀ r ∈ (rRows 32 8 b l).1, r.length ≤ 8 := by
  intro r hr
  unfold rRows rList at hr
  simp only at hr
  split at hr
  · cases hr
  · exact rMany_all (rRow 8) (fun r => r.length ≤ 8) (fun b l => rRow_len b l) _ _ _ r hr

theorem elemBat2 : Elem Try.prog 25 38 2 32 (.agg #[.int .i64 0, .slice none 0 0]) :=
  ⟨Try.underlying25, by kernel_rfl, rfl, by omega, by intro u hu; simp [Value.cells] at hu; rcases hu with rfl | rfl <;> rfl⟩
theorem batCells_app (a b : List BatV) : batCells (a ++ b) = batCells a ++ batCells b := by simp [batCells]
/-- What is read in all. -/
def rAll (cl : List ColV) (l : List UInt8) : List (Int × List (List AV)) × Bool × List UInt8 := rMany (rBat cl) (rSize 1048576 false l).1 (rSize 1048576 false l).2.1 (rSize 1048576 false l).2.2
def ReadOut (w : World) (tot : List (Int × List (List AV)) × Bool × List UInt8) (e : Ending) (w' : World) : Prop :=
  Below w.heap.size w w' ∧ (((tot.2.1 = true ∨ tot.2.2 ≠ []) ∧ e = .returned (.tuple #[.slice none 0 0, .int .i64 4])) ∨
    (tot.2.1 = false ∧ tot.2.2 = [] ∧ ∃ v acc, e = .returned (.tuple #[v, .int .i64 0]) ∧ BatAt w' (fun k => w.heap.size ≤ k) v acc ∧ acc.map BatV.data = tot.1))
def ReadSt (w : World) (cl : List ColV) (tot : List (Int × List (List AV)) × Bool × List UInt8) (m : Nat) (v : Value) (wr : World) (bk : Bool) (lk : List UInt8) : Prop :=
  ∃ acc : List BatV, Own wr 38 2 v acc.length (batCells acc) ∧ (∀ q, v.ownBlock = some q → w.heap.size + 2 ≤ q) ∧ (∀ x ∈ acc, RowsAt wr (fun q => w.heap.size + 2 ≤ q ∧ v.ownBlock ≠ some q) x.v x.rows) ∧
    Rdr wr (some ⟨w.heap.size + 1, 0, none⟩) (fun k => k = w.heap.size) bk lk ∧ Below w.heap.size w wr ∧ acc.map BatV.data ++ (rMany (rBat cl) m bk lk).1 = tot.1 ∧ (rMany (rBat cl) m bk lk).2 = tot.2 ∧
    (bk = false → acc.length + lk.length ≤ 10000000) ∧ acc.length ≤ 10000001 ∧ w.heap.size + 2 ≤ wr.heap.size

set_option maxRecDepth 100000 in
set_option maxHeartbeats 2000000 in
theorem stread_any (w : World) (s : ByteArray) (hs : s.size ≤ 10000000) (cv : Value) (cl : List ColV) (hc : Sl w (fun _ => True) 2 cv cl.length (colCells cl)) :
    Calls Try.prog 62 #[.string s, cv] w (ReadOut w (rAll cl s.data.toList)) := by
  obtain ⟨pc, cc, rfl, hcc1, hcc⟩ := hc.form
  have HRD0 := Lib.hid (read_any w s (by omega))
  have hsl : s.data.toList.length = s.size := Array.length_toList
  have hsg := rSize_good 1048576 false s.data.toList
  have hTOT : rAll cl s.data.toList = rMany (rBat cl) (rSize 1048576 false s.data.toList).1 (rSize 1048576 false s.data.toList).2.1 (rSize 1048576 false s.data.toList).2.2 := rfl
  generalize rAll cl s.data.toList = tot at *
  have HSZ : Hid (∀ w2, Rdr w2 (some ⟨w.heap.size + 1, 0, none⟩) (fun k => k = w.heap.size) false s.data.toList → Calls Try.prog 71 #[.pointer (some ⟨w.heap.size + 1, 0, none⟩), .int .i64 1048576] w2 fun e w' => e = .returned (.int .i64 ((rSize 1048576 false s.data.toList).1 : Int)) ∧ Rdr w' (some ⟨w.heap.size + 1, 0, none⟩) (fun k => k = w.heap.size) (rSize 1048576 false s.data.toList).2.1 (rSize 1048576 false s.data.toList).2.2 ∧ Only (Mine (some ⟨w.heap.size + 1, 0, none⟩)) w2 w') :=
    fun w2 h => size_r w2 _ false _ h 1048576 (by unfold fit64; omega)
  have hn0 : (rSize 1048576 false s.data.toList).1 ≤ 1048576 := rSize_le2 1048576 false s.data.toList
  generalize rSize 1048576 false s.data.toList = sz at *
  obtain ⟨n, b1, l1⟩ := sz
  simp only at hTOT HSZ hsg hn0
  have hl1 : b1 = false → l1.length ≤ 10000000 := fun hb => by have := (hsg hb).2; omega
  have HL1 := Lib.hid hl1
  have HTOT := Lib.hid hTOT
  have HC := Lib.hid hc
  clear hsg hl1 hTOT hc hsl
  go_enter Try.func62, Try.ntmps62
  go_wp2_with fail
  refine HRD0.out.mono ?_
  clear HRD0
  rintro e w2 ⟨rfl, hrd, hb2⟩
  have HS2 := Lib.hid (HSZ.out w2 hrd)
  have hlt2 := hrd.lt _ rfl
  have HB2 := Lib.hid hb2
  clear HSZ hrd hb2
  go_wp2_with fail
  refine HS2.out.mono ?_
  clear HS2
  rintro e w3 ⟨rfl, hrd3, ho3⟩
  have HRD3 := Lib.hid hrd3
  have hmine : ∀ q, Mine (some ⟨w.heap.size + 1, 0, none⟩) q → w.heap.size ≤ q := fun q hq => by have := mine_eq hq; omega
  have HM := Lib.hid hmine
  have HB3 := Lib.hid (HB2.out.trans (ho3.below HB2.out.size hmine))
  have hlt3 : w.heap.size + 2 ≤ w3.heap.size := by have := ho3.size; omega
  clear hrd3 ho3 hmine HB2
  go_wp2_with fail
  go_loopw [7, 8] (fun v i wr => ∃ (m : Nat) (bk : Bool) (lk : List UInt8), i = .int .i64 m ∧ m ≤ 1048576 ∧ ReadSt w cl tot m v wr bk lk) (fun _ i _ => (intOf i).toNat)
  case atStart => exact ⟨n, b1, l1, rfl, hn0, [], Own.nil _ _ _, by simp [Value.ownBlock], by simp, HRD3.out, HB3.out, by rw [HTOT.out]; rfl, by rw [HTOT.out], fun hb => by simpa using HL1.out hb, by simp, hlt3⟩
  case round =>
    obtain ⟨m, bk, lk, rfl, hm, acc, hown, hnew, hrows, hrd, hbr, ht1, ht2, hlb, hla, hsz⟩ := hrel
    obtain ⟨pv, cv2, rfl, hcv1, hcv2⟩ := own_form2 hown
    have HG := Lib.hid (good_r wr _ _ _ hrd)
    have HE := Lib.hid (end_r wr _ _ _ hrd)
    have HOWN := Lib.hid hown
    have HNEW := Lib.hid hnew
    have HROWS := Lib.hid hrows
    have HRD := Lib.hid hrd
    have HBR := Lib.hid hbr
    have HT1 := Lib.hid ht1
    have HT2 := Lib.hid ht2
    have HLB := Lib.hid hlb
    clear hown hnew hrows hrd hbr ht1 ht2 hlb
    by_cases hm0 : m = 0
    · subst hm0
      have hz : decide ((0 : Int) < ((0 : Nat) : Int)) = false := rfl
      have ht1 : acc.map BatV.data = tot.1 := by
        have := HT1.out
        rw [show (rMany (rBat cl) 0 bk lk).1 = [] from rfl, List.append_nil] at this
        exact this
      have ht2 : (bk, lk) = tot.2 := HT2.out
      clear HT1 HT2
      have HT1 := Lib.hid ht1
      have HT2 := Lib.hid ht2
      clear ht1 ht2 HG
      have hro : ReadOut w tot (if (!bk && lk.isEmpty) = true then .returned (.tuple #[.slice pv acc.length cv2, .int .i64 0]) else .returned (.tuple #[.slice none 0 0, .int .i64 4])) wr := by
        refine ⟨HBR.out, ?_⟩
        cases bk
        · cases lk with
          | nil =>
            refine .inr ⟨by rw [← HT2.out], by rw [← HT2.out], _, acc, rfl, ⟨HOWN.out.sl (fun q hq => by have := HNEW.out q hq; omega), fun x hx => ?_⟩, HT1.out⟩
            have h8 := HROWS.out x hx
            exact ⟨h8.1.mono (Nat.le_refl _) (fun _ _ _ => rfl) (fun q hq _ => by have := hq.1; omega), fun r hr => (h8.2 r hr).mono (Nat.le_refl _) (fun _ _ _ => rfl) (fun q hq _ => by have := hq.1; omega)⟩
          | cons a t => exact .inl ⟨.inr (by rw [← HT2.out]; simp), rfl⟩
        · exact .inl ⟨.inl (by rw [← HT2.out]), rfl⟩
      generalize (!bk && lk.isEmpty) = c at *
      have HRO := Lib.hid hro
      clear hro
      cases c
      all_goals
        go_wp2_with (go_at_call 73; refine HE.out.mono ?_; clear HE; rintro e w5 ⟨rfl, rfl⟩)
        go_ret2
        exact HRO.out
    · obtain ⟨m, rfl⟩ : ∃ m', m = m' + 1 := ⟨m - 1, by omega⟩
      have hpos : (0 : Int) < ((m + 1 : Nat) : Int) := by omega
      cases bk
      case true =>
        have ht1 : acc.map BatV.data = tot.1 := by
          have := HT1.out
          rw [show (rMany (rBat cl) (m + 1) true lk).1 = [] from rfl, List.append_nil] at this
          exact this
        have hlk : lk = [] := HRD.out.empty rfl
        subst hlk
        have ht2 : (true, []) = tot.2 := HT2.out
        clear HT1 HT2
        obtain ⟨bk, hbk⟩ : ∃ bk, bk = true := ⟨_, rfl⟩
        obtain ⟨lk, hlk⟩ : ∃ lk : List UInt8, lk = [] := ⟨_, rfl⟩
        rw [← hbk, ← hlk] at ht2
        rw [← hbk, ← hlk] at HE
        have HT1 := Lib.hid ht1
        have HT2 := Lib.hid ht2
        have hc0 : (!bk && lk.isEmpty) = false := by rw [hbk]; rfl
        clear ht1 ht2
        have hro : ReadOut w tot (if (!bk && lk.isEmpty) = true then .returned (.tuple #[.slice pv acc.length cv2, .int .i64 0]) else .returned (.tuple #[.slice none 0 0, .int .i64 4])) wr := by
          refine ⟨HBR.out, ?_⟩
          cases bk
          · cases lk with
            | nil =>
              refine .inr ⟨by rw [← HT2.out], by rw [← HT2.out], _, acc, rfl, ⟨HOWN.out.sl (fun q hq => by have := HNEW.out q hq; omega), fun x hx => ?_⟩, HT1.out⟩
              have h8 := HROWS.out x hx
              exact ⟨h8.1.mono (Nat.le_refl _) (fun _ _ _ => rfl) (fun q hq _ => by have := hq.1; omega), fun r hr => (h8.2 r hr).mono (Nat.le_refl _) (fun _ _ _ => rfl) (fun q hq _ => by have := hq.1; omega)⟩
            | cons a t => exact .inl ⟨.inr (by rw [← HT2.out]; simp), rfl⟩
          · exact .inl ⟨.inl (by rw [← HT2.out]), rfl⟩
        generalize (!bk && lk.isEmpty) = c at *
        have HRO := Lib.hid hro
        clear hro
        subst hc0
        clear hbk hlk
        go_wp2_with (first
          | (go_at_call 52; refine HG.out.mono ?_; clear HG; rintro e w4 ⟨rfl, rfl⟩)
          | (go_at_call 73; refine HE.out.mono ?_; clear HE; rintro e w5 ⟨rfl, rfl⟩))
        go_ret2
        exact HRO.out
      case false =>
        clear HE
        have hgb := rBat_good cl false lk
        have hrb : rBat cl false lk = if ((rSize 9223372036854775807 false lk).1 : Int) < 1 ∨ fitsB cl (rRows 32 8 (rSize 9223372036854775807 false lk).2.1 (rSize 9223372036854775807 false lk).2.2).1 = false then
          ((((rSize 9223372036854775807 false lk).1 : Int), (rRows 32 8 (rSize 9223372036854775807 false lk).2.1 (rSize 9223372036854775807 false lk).2.2).1), true, [])
          else ((((rSize 9223372036854775807 false lk).1 : Int), (rRows 32 8 (rSize 9223372036854775807 false lk).2.1 (rSize 9223372036854775807 false lk).2.2).1), (rRows 32 8 (rSize 9223372036854775807 false lk).2.1 (rSize 9223372036854775807 false lk).2.2).2) := rfl
        have hu1 : acc.map BatV.data ++ (rBat cl false lk).1 :: (rMany (rBat cl) m (rBat cl false lk).2.1 (rBat cl false lk).2.2).1 = tot.1 := HT1.out
        have hu2 : (rMany (rBat cl) m (rBat cl false lk).2.1 (rBat cl false lk).2.2).2 = tot.2 := HT2.out
        have hrl8 := rRows_len (rSize 9223372036854775807 false lk).2.1 (rSize 9223372036854775807 false lk).2.2
        have hsz2 := rSize_good 9223372036854775807 false lk
        have hsle := rSize_le2 9223372036854775807 false lk
        have hlkb : lk.length ≤ 10000000 := by have := HLB.out (by first | rfl | trivial); omega
        have HS := Lib.hid (size_r wr _ false lk HRD.out 9223372036854775807 (by unfold fit64; omega))
        clear HT1 HT2
        generalize rBat cl false lk = rb at *
        generalize rSize 9223372036854775807 false lk = s2 at *
        obtain ⟨sn, b5, l5⟩ := s2
        simp only at hrb hrl8 hsz2 hsle HS
        have HRWS : Hid (∀ w5, Rdr w5 (some ⟨w.heap.size + 1, 0, none⟩) (fun k => k = w.heap.size) b5 l5 → w.heap.size + 2 ≤ w5.heap.size → Calls Try.prog 50 #[.pointer (some ⟨w.heap.size + 1, 0, none⟩), .int .i64 32, .int .i64 8] w5 fun e w' => RowsOut (fun k => k = w.heap.size) w5 (some ⟨w.heap.size + 1, 0, none⟩) (rRows 32 8 b5 l5) e w') :=
          fun w5 h h2 => by
            have hb5l : l5.length ≤ 10000000 := by
              cases hb5 : b5
              · have := (hsz2 hb5).2; omega
              · rw [h.empty hb5]; simp
            exact rows_r w5 _ b5 l5 h (fun k hk => by omega) 32 8 (by unfold fit64; omega) (by unfold fit64; omega) hb5l
        generalize rRows 32 8 b5 l5 = ro at *
        obtain ⟨rws, b6, l6⟩ := ro
        simp only at hrb hrl8 HRWS
        have HRB := Lib.hid hrb
        have HU1 := Lib.hid hu1
        have HU2 := Lib.hid hu2
        have HGB := Lib.hid hgb
        have HRL8 := Lib.hid hrl8
        clear hrb hu1 hu2 hgb hrl8 hsz2
        go_wp2_with fail
        refine HG.out.mono ?_
        clear HG
        rintro e w4 ⟨rfl, rfl⟩
        go_wp2_with fail
        refine HS.out.mono ?_
        clear HS
        rintro e w5 ⟨rfl, hrd5, ho5⟩
        have HRW5 := Lib.hid (HRWS.out w5 hrd5 (Nat.le_trans hsz ho5.size))
        have HO5 := Lib.hid ho5
        clear HRWS hrd5 ho5
        go_wp2_with fail
        refine HRW5.out.mono ?_
        clear HRW5
        rintro e w7 hrwo
        unfold RowsOut at hrwo
        obtain ⟨v7, rows, rfl, hrows7, hown7, hnew7, hsl7, hrd7, ho7⟩ := hrwo
        obtain ⟨pr, cr, rfl, hcr1, hcr2⟩ := own_form2 hown7
        simp only at hrows7 hrd7
        have ho47 : Only (Mine (some ⟨w.heap.size + 1, 0, none⟩)) wr w7 := HO5.out.trans ho7 (fun _ _ h => h)
        have hal7 : Below w7.heap.size w7 (w7.alloc (.cells #[.int .i64 sn, .slice pr rows.length cr] 38)) := (Below.refl _ _).alloc (Nat.le_refl _) _
        have HK7 := Lib.hid (Blk.new w7 38 [.int .i64 sn, .slice pr rows.length cr])
        have hs8 : (w7.alloc (.cells #[.int .i64 sn, .slice pr rows.length cr] 38)).heap.size = w7.heap.size + 1 := by simp
        have HS8 := Lib.hid hs8
        have hxr : RowsAt w7 (fun q => wr.heap.size ≤ q) (.slice pr rows.length cr) rows := ⟨hown7.sl (fun q hq => Nat.le_trans HO5.out.size (hnew7 q hq)), fun r hr => (hsl7 r hr).mono (Nat.le_refl _) (fun _ _ _ => rfl) (fun q hq _ => Nat.le_trans HO5.out.size hq)⟩
        have HXR8 := Lib.hid (hxr.below hal7)
        have HOWN8 := Lib.hid ((HOWN.out.only ho47 (fun q hq h => by
          have h1 := HNEW.out q hq
          have h2 := mine_eq h
          omega)).below hal7)
        have HROWS8 : Hid (∀ x ∈ acc, RowsAt (w7.alloc (.cells #[.int .i64 sn, .slice pr rows.length cr] 38)) (fun q => w.heap.size + 2 ≤ q ∧ (Value.slice pv acc.length cv2).ownBlock ≠ some q) x.v x.rows) := fun x hx =>
          ((HROWS.out x hx).only ho47 (fun q hq h => by
            have h2 := mine_eq h
            have := hq.1; omega)).below hal7
        have HRD8 := Lib.hid (hrd7.below hal7)
        have hb7 : Below w.heap.size w w7 := HBR.out.trans (ho47.below HBR.out.size HM.out)
        have HB8 := Lib.hid (hb7.trans (hal7.mono hb7.size))
        have HW7 := Lib.hid ho47.size
        have HROWS7 := Lib.hid hrows7
        have hlt7 : w.heap.size + 2 ≤ w7.heap.size := Nat.le_trans hsz ho47.size
        clear hrows7 hown7 hnew7 hsl7 hrd7 ho7 ho47 hal7 hs8 hxr hb7
        by_cases hid0 : (sn : Int) < 1
        · have e9 : rb = (((sn : Int), rws), true, []) := by rw [HRB.out, if_pos (.inl hid0)]
          have d1 : decide ((sn : Int) < 1) = true := decide_eq_true hid0
          subst e9
          have HFL := Lib.hid (fail_r _ _ _ _ HRD8.out)
          have HOWNE := HOWN8
          have HROWSE := HROWS8
          have HXRE := HXR8
          have HKE := HK7
          have HBE := HB8
          have HSE : Hid (w.heap.size + 2 ≤ (w7.alloc (.cells #[.int .i64 sn, .slice pr rows.length cr] 38)).heap.size) := by
            have := HS8.out
            have h2 : w.heap.size + 2 ≤ (w7.alloc (.cells #[.int .i64 sn, .slice pr rows.length cr] 38)).heap.size := by omega
            exact Lib.hid h2
          clear hid0 HRB
          go_wp2_with fail
          refine HFL.out.mono ?_
          clear HFL
          rintro e wF ⟨rfl, hrdF, hoF⟩
          obtain ⟨bF, hbF⟩ : ∃ bF, bF = true := ⟨_, rfl⟩
          obtain ⟨lF, hlF⟩ : ∃ lF : List UInt8, lF = [] := ⟨_, rfl⟩
          rw [← hbF, ← hlF] at hrdF
          have hm9 : ∀ q, Mine (some ⟨w.heap.size + 1, 0, none⟩) q → q = w.heap.size + 1 := fun q h => mine_eq h
          have HRDF := Lib.hid hrdF
          have HOWNF := Lib.hid (HOWNE.out.only hoF (fun q hq h => by
            have h1 := HNEW.out q hq
            have h2 := hm9 q h
            omega))
          have HROWSF : Hid (∀ x ∈ acc, RowsAt wF (fun q => w.heap.size + 2 ≤ q ∧ (Value.slice pv acc.length cv2).ownBlock ≠ some q) x.v x.rows) := fun x hx =>
            (HROWSE.out x hx).only hoF (fun q hq h => by
              have h2 := hm9 q h
              have := hq.1; omega)
          have HXRF := Lib.hid (HXRE.out.only hoF (fun q hq h => by have h2 := hm9 q h; omega))
          have HKF := Lib.hid (HKE.out.only hoF (fun h => by have h2 := hm9 _ h; omega))
          have HBF := Lib.hid (HBE.out.trans (hoF.below HBE.out.size HM.out))
          have hsF := hoF.size
          have HSF : Hid (w.heap.size + 2 ≤ wF.heap.size) := Nat.le_trans HSE.out hsF
          have HU1F : Hid (acc.map BatV.data ++ ([(⟨sn, .slice pr rows.length cr, rows⟩ : BatV)].map BatV.data ++ (rMany (rBat cl) m bF lF).1) = tot.1) := by
            have := HU1.out
            rw [hbF, hlF]
            simp only [← HROWS7.out] at this
            exact Lib.hid this
          have HU2F : Hid ((rMany (rBat cl) m bF lF).2 = tot.2) := by
            rw [hbF, hlF]; exact HU2
          have HBL : Hid (bF = false → lF.length + 1 ≤ lk.length) := fun h => by rw [hbF] at h; cases h
          clear hrdF hoF hm9 hbF hlF hsF HU1 HU2 HGB
          have HU1 := HU1F
          have HU2 := HU2F
          clear HU1F HU2F
          have z0 : wF.cell? ⟨w7.heap.size, 0, none⟩ = some (.int .i64 sn) := HKF.out.cell 0
          have z1 : wF.cell? ⟨w7.heap.size, 1, none⟩ = some (.slice pr rows.length cr) := HKF.out.cell 1
          have hal8 : Below wF.heap.size wF (wF.alloc (.cells #[.int .i64 sn, .slice pr rows.length cr] 38)) := (Below.refl _ _).alloc (Nat.le_refl _) _
          have ho1 := HOWNF.out.below hal8
          have hs1 : Sl (wF.alloc (.cells #[.int .i64 sn, .slice pr rows.length cr] 38)) (fun _ => True) 2 (.slice (some ⟨wF.heap.size, 0, none⟩) 1 1) 1 (batCells [⟨sn, .slice pr rows.length cr, rows⟩]) :=
            (Own.made wF 38 2 (batCells [⟨sn, .slice pr rows.length cr, rows⟩]) [] 1 1 rfl (by intro u hu; simp [batCells, BatV.cells] at hu; rcases hu with rfl | rfl <;> rfl) (Nat.le_refl _) (by simp [maxLen]) (by simp [batCells, BatV.cells])).sl (fun _ _ => trivial)
          have HAL8 := Lib.hid hal8
          have hla2 : acc.length ≤ 10000000 := by have := HLB.out (by first | rfl | trivial); omega
          clear hal8
          go_wp2_with (at_builtin; refine wpList_app rfl _ _ rfl elemBat2 (by rfl) ho1 (by rfl) hs1 (by unfold maxLen; omega) (by omega) ?_; intro v1 w9 g1 g2 g3 g4 g5; clear ho1 hs1; have G1 := Lib.hid g1; have G2 := Lib.hid g2; have G3 := Lib.hid g3; clear g1 g2 g3 g4 g5)
          have hnewlt : ∀ q, (Value.slice pv acc.length cv2).ownBlock = some q → q < wr.heap.size := HOWN.out.lt
          have hw7 : wr.heap.size ≤ w7.heap.size := HW7.out
          have hmv : ∀ x : BatV, RowsAt wF (fun q => w.heap.size + 2 ≤ q ∧ q < wF.heap.size ∧ (Value.slice pv acc.length cv2).ownBlock ≠ some q) x.v x.rows → RowsAt w9 (fun q => w.heap.size + 2 ≤ q ∧ v1.ownBlock ≠ some q) x.v x.rows := fun x h => by
            have hq9 : ∀ q, (w.heap.size + 2 ≤ q ∧ q < wF.heap.size ∧ (Value.slice pv acc.length cv2).ownBlock ≠ some q) → w.heap.size + 2 ≤ q ∧ v1.ownBlock ≠ some q := fun q hq => ⟨hq.1, fun h9 => by
              rcases G3.out with h1 | h1
              · rw [h1] at h9; exact hq.2.2 h9
              · rw [h1] at h9
                have : wF.heap.size + 1 = q := by simpa using h9
                omega⟩
            have h8 := h.below HAL8.out
            exact ⟨h8.1.mono G2.out.size (fun q hq hl => G2.out.block q hl hq.2.2) (fun q hq _ => hq9 q hq), fun r hr => (h8.2 r hr).mono G2.out.size (fun q hq hl => G2.out.block q hl hq.2.2) (fun q hq _ => hq9 q hq)⟩
          refine ⟨⟨m, bF, lF, by go_num, by omega, acc ++ [⟨sn, .slice pr rows.length cr, rows⟩], ?_, fun q hq => ?_, fun x hx => ?_, ?_, ?_, ?_, ?_, fun hb => ?_, ?_, ?_⟩, by (simp [intOf]) <;> omega⟩
          · rw [List.length_append, batCells_app]; exact G1.out
          · rcases G3.out with h | h
            · rw [h] at hq; exact HNEW.out q hq
            · rw [h] at hq
              have : wF.heap.size + 1 = q := by simpa using hq
              have := HSF.out
              omega
          · rcases List.mem_append.1 hx with hx | hx
            · refine hmv x ?_
              have h8 := HROWSF.out x hx
              exact ⟨h8.1.mono (Nat.le_refl _) (fun _ _ _ => rfl) (fun q hq hl => ⟨hq.1, hl, hq.2⟩), fun r hr => (h8.2 r hr).mono (Nat.le_refl _) (fun _ _ _ => rfl) (fun q hq hl => ⟨hq.1, hl, hq.2⟩)⟩
            · rw [List.mem_singleton.1 hx]
              refine hmv ⟨sn, .slice pr rows.length cr, rows⟩ ?_
              have h8 := HXRF.out
              have hq8 : ∀ q, wr.heap.size ≤ q → q < wF.heap.size → w.heap.size + 2 ≤ q ∧ q < wF.heap.size ∧ (Value.slice pv acc.length cv2).ownBlock ≠ some q := fun q hq hl => ⟨by omega, hl, fun h => by have := hnewlt q h; omega⟩
              exact ⟨h8.1.mono (Nat.le_refl _) (fun _ _ _ => rfl) (fun q hq hl => hq8 q hq hl), fun r hr => (h8.2 r hr).mono (Nat.le_refl _) (fun _ _ _ => rfl) (fun q hq hl => hq8 q hq hl)⟩
          · refine (HRDF.out.below HAL8.out).only G2.out (fun q hq h => ?_) (fun q hq h => ?_)
            · have h1 := HNEW.out q hq
              have h2 := mine_eq h
              omega
            · have h1 := HNEW.out q hq
              omega
          · have h8 := HBF.out.trans (HAL8.out.mono HBF.out.size)
            exact h8.trans (G2.out.below h8.size (fun q hq => by have := HNEW.out q hq; omega))
          · rw [List.map_append, List.append_assoc]
            exact HU1.out
          · exact HU2.out
          · have := HBL.out hb
            have := HLB.out (by first | rfl | trivial)
            rw [List.length_append]; simp only [List.length_cons, List.length_nil]; omega
          · rw [List.length_append]; simp only [List.length_cons, List.length_nil]; omega
          · have h8 := HAL8.out.size
            have h9 := G2.out.size
            have := HSF.out
            omega
        · have d1 : decide ((sn : Int) < 1) = false := decide_eq_false hid0
          have hft := stfits_any _ _ _ _ _ cl rows (HC.out.below HB8.out) HXR8.out (fun r hr => by
            have := HRL8.out r.l (by rw [← HROWS7.out]; exact List.mem_map_of_mem hr)
            omega)
          rw [HROWS7.out] at hft
          have hrb2 : rb = if fitsB cl rws = false then (((sn : Int), rws), true, []) else (((sn : Int), rws), b6, l6) := by
            rw [HRB.out]
            cases fitsB cl rws
            · rw [if_pos (.inr rfl), if_pos rfl]
            · rw [if_neg (by simp; omega), if_neg (by decide)]
          have HFT := Lib.hid hft
          clear hft HRB hid0
          generalize fitsB cl rws = f at *
          go_wp2_with fail
          refine HFT.out.mono ?_
          clear HFT
          rintro e wE ⟨rfl, hbE⟩
          have HOWNE := Lib.hid (HOWN8.out.below hbE)
          have HROWSE : Hid (∀ x ∈ acc, RowsAt wE (fun q => w.heap.size + 2 ≤ q ∧ (Value.slice pv acc.length cv2).ownBlock ≠ some q) x.v x.rows) := fun x hx => (HROWS8.out x hx).below hbE
          have HXRE := Lib.hid (HXR8.out.below hbE)
          have HKE := Lib.hid (HK7.out.below hbE)
          have HBE := Lib.hid (HB8.out.trans (hbE.mono HB8.out.size))
          have HSE : Hid (w.heap.size + 2 ≤ wE.heap.size) := by
            have h1 := HS8.out
            have h3 := hbE.size
            have h2 : w.heap.size + 2 ≤ wE.heap.size := by omega
            exact Lib.hid h2
          have HRDE := Lib.hid (HRD8.out.below hbE)
          clear hbE
          cases f
          · have e9 : rb = (((sn : Int), rws), true, []) := hrb2
            subst e9
            have HFL := Lib.hid (fail_r _ _ _ _ HRDE.out)
            clear hrb2
            go_wp2_with fail
            refine HFL.out.mono ?_
            clear HFL
            rintro e wF ⟨rfl, hrdF, hoF⟩
            obtain ⟨bF, hbF⟩ : ∃ bF, bF = true := ⟨_, rfl⟩
            obtain ⟨lF, hlF⟩ : ∃ lF : List UInt8, lF = [] := ⟨_, rfl⟩
            rw [← hbF, ← hlF] at hrdF
            have hm9 : ∀ q, Mine (some ⟨w.heap.size + 1, 0, none⟩) q → q = w.heap.size + 1 := fun q h => mine_eq h
            have HRDF := Lib.hid hrdF
            have HOWNF := Lib.hid (HOWNE.out.only hoF (fun q hq h => by
              have h1 := HNEW.out q hq
              have h2 := hm9 q h
              omega))
            have HROWSF : Hid (∀ x ∈ acc, RowsAt wF (fun q => w.heap.size + 2 ≤ q ∧ (Value.slice pv acc.length cv2).ownBlock ≠ some q) x.v x.rows) := fun x hx =>
              (HROWSE.out x hx).only hoF (fun q hq h => by
                have h2 := hm9 q h
                have := hq.1; omega)
            have HXRF := Lib.hid (HXRE.out.only hoF (fun q hq h => by have h2 := hm9 q h; omega))
            have HKF := Lib.hid (HKE.out.only hoF (fun h => by have h2 := hm9 _ h; omega))
            have HBF := Lib.hid (HBE.out.trans (hoF.below HBE.out.size HM.out))
            have hsF := hoF.size
            have HSF : Hid (w.heap.size + 2 ≤ wF.heap.size) := Nat.le_trans HSE.out hsF
            have HU1F : Hid (acc.map BatV.data ++ ([(⟨sn, .slice pr rows.length cr, rows⟩ : BatV)].map BatV.data ++ (rMany (rBat cl) m bF lF).1) = tot.1) := by
              have := HU1.out
              rw [hbF, hlF]
              simp only [← HROWS7.out] at this
              exact Lib.hid this
            have HU2F : Hid ((rMany (rBat cl) m bF lF).2 = tot.2) := by
              rw [hbF, hlF]; exact HU2
            have HBL : Hid (bF = false → lF.length + 1 ≤ lk.length) := fun h => by rw [hbF] at h; cases h
            clear hrdF hoF hm9 hbF hlF hsF HU1 HU2 HGB
            have HU1 := HU1F
            have HU2 := HU2F
            clear HU1F HU2F
            have z0 : wF.cell? ⟨w7.heap.size, 0, none⟩ = some (.int .i64 sn) := HKF.out.cell 0
            have z1 : wF.cell? ⟨w7.heap.size, 1, none⟩ = some (.slice pr rows.length cr) := HKF.out.cell 1
            have hal8 : Below wF.heap.size wF (wF.alloc (.cells #[.int .i64 sn, .slice pr rows.length cr] 38)) := (Below.refl _ _).alloc (Nat.le_refl _) _
            have ho1 := HOWNF.out.below hal8
            have hs1 : Sl (wF.alloc (.cells #[.int .i64 sn, .slice pr rows.length cr] 38)) (fun _ => True) 2 (.slice (some ⟨wF.heap.size, 0, none⟩) 1 1) 1 (batCells [⟨sn, .slice pr rows.length cr, rows⟩]) :=
              (Own.made wF 38 2 (batCells [⟨sn, .slice pr rows.length cr, rows⟩]) [] 1 1 rfl (by intro u hu; simp [batCells, BatV.cells] at hu; rcases hu with rfl | rfl <;> rfl) (Nat.le_refl _) (by simp [maxLen]) (by simp [batCells, BatV.cells])).sl (fun _ _ => trivial)
            have HAL8 := Lib.hid hal8
            have hla2 : acc.length ≤ 10000000 := by have := HLB.out (by first | rfl | trivial); omega
            clear hal8
            go_wp2_with (at_builtin; refine wpList_app rfl _ _ rfl elemBat2 (by rfl) ho1 (by rfl) hs1 (by unfold maxLen; omega) (by omega) ?_; intro v1 w9 g1 g2 g3 g4 g5; clear ho1 hs1; have G1 := Lib.hid g1; have G2 := Lib.hid g2; have G3 := Lib.hid g3; clear g1 g2 g3 g4 g5)
            have hnewlt : ∀ q, (Value.slice pv acc.length cv2).ownBlock = some q → q < wr.heap.size := HOWN.out.lt
            have hw7 : wr.heap.size ≤ w7.heap.size := HW7.out
            have hmv : ∀ x : BatV, RowsAt wF (fun q => w.heap.size + 2 ≤ q ∧ q < wF.heap.size ∧ (Value.slice pv acc.length cv2).ownBlock ≠ some q) x.v x.rows → RowsAt w9 (fun q => w.heap.size + 2 ≤ q ∧ v1.ownBlock ≠ some q) x.v x.rows := fun x h => by
              have hq9 : ∀ q, (w.heap.size + 2 ≤ q ∧ q < wF.heap.size ∧ (Value.slice pv acc.length cv2).ownBlock ≠ some q) → w.heap.size + 2 ≤ q ∧ v1.ownBlock ≠ some q := fun q hq => ⟨hq.1, fun h9 => by
                rcases G3.out with h1 | h1
                · rw [h1] at h9; exact hq.2.2 h9
                · rw [h1] at h9
                  have : wF.heap.size + 1 = q := by simpa using h9
                  omega⟩
              have h8 := h.below HAL8.out
              exact ⟨h8.1.mono G2.out.size (fun q hq hl => G2.out.block q hl hq.2.2) (fun q hq _ => hq9 q hq), fun r hr => (h8.2 r hr).mono G2.out.size (fun q hq hl => G2.out.block q hl hq.2.2) (fun q hq _ => hq9 q hq)⟩
            refine ⟨⟨m, bF, lF, by go_num, by omega, acc ++ [⟨sn, .slice pr rows.length cr, rows⟩], ?_, fun q hq => ?_, fun x hx => ?_, ?_, ?_, ?_, ?_, fun hb => ?_, ?_, ?_⟩, by (simp [intOf]) <;> omega⟩
            · rw [List.length_append, batCells_app]; exact G1.out
            · rcases G3.out with h | h
              · rw [h] at hq; exact HNEW.out q hq
              · rw [h] at hq
                have : wF.heap.size + 1 = q := by simpa using hq
                have := HSF.out
                omega
            · rcases List.mem_append.1 hx with hx | hx
              · refine hmv x ?_
                have h8 := HROWSF.out x hx
                exact ⟨h8.1.mono (Nat.le_refl _) (fun _ _ _ => rfl) (fun q hq hl => ⟨hq.1, hl, hq.2⟩), fun r hr => (h8.2 r hr).mono (Nat.le_refl _) (fun _ _ _ => rfl) (fun q hq hl => ⟨hq.1, hl, hq.2⟩)⟩
              · rw [List.mem_singleton.1 hx]
                refine hmv ⟨sn, .slice pr rows.length cr, rows⟩ ?_
                have h8 := HXRF.out
                have hq8 : ∀ q, wr.heap.size ≤ q → q < wF.heap.size → w.heap.size + 2 ≤ q ∧ q < wF.heap.size ∧ (Value.slice pv acc.length cv2).ownBlock ≠ some q := fun q hq hl => ⟨by omega, hl, fun h => by have := hnewlt q h; omega⟩
                exact ⟨h8.1.mono (Nat.le_refl _) (fun _ _ _ => rfl) (fun q hq hl => hq8 q hq hl), fun r hr => (h8.2 r hr).mono (Nat.le_refl _) (fun _ _ _ => rfl) (fun q hq hl => hq8 q hq hl)⟩
            · refine (HRDF.out.below HAL8.out).only G2.out (fun q hq h => ?_) (fun q hq h => ?_)
              · have h1 := HNEW.out q hq
                have h2 := mine_eq h
                omega
              · have h1 := HNEW.out q hq
                omega
            · have h8 := HBF.out.trans (HAL8.out.mono HBF.out.size)
              exact h8.trans (G2.out.below h8.size (fun q hq => by have := HNEW.out q hq; omega))
            · rw [List.map_append, List.append_assoc]
              exact HU1.out
            · exact HU2.out
            · have := HBL.out hb
              have := HLB.out (by first | rfl | trivial)
              rw [List.length_append]; simp only [List.length_cons, List.length_nil]; omega
            · rw [List.length_append]; simp only [List.length_cons, List.length_nil]; omega
            · have h8 := HAL8.out.size
              have h9 := G2.out.size
              have := HSF.out
              omega
          · have e9 : rb = (((sn : Int), rws), b6, l6) := hrb2
            subst e9
            obtain ⟨wF, rfl⟩ : ∃ wF : World, wF = wE := ⟨_, rfl⟩
            obtain ⟨bF, rfl⟩ : ∃ bF, bF = b6 := ⟨_, rfl⟩
            obtain ⟨lF, rfl⟩ : ∃ lF, lF = l6 := ⟨_, rfl⟩
            have HRDF := HRDE
            have HOWNF := HOWNE
            have HROWSF := HROWSE
            have HXRF := HXRE
            have HKF := HKE
            have HBF := HBE
            have HSF := HSE
            have HU1F : Hid (acc.map BatV.data ++ ([(⟨sn, .slice pr rows.length cr, rows⟩ : BatV)].map BatV.data ++ (rMany (rBat cl) m bF lF).1) = tot.1) := by
              have := HU1.out
              simp only [← HROWS7.out] at this
              exact Lib.hid this
            have HBL : Hid (bF = false → lF.length + 1 ≤ lk.length) := fun h => (HGB.out h).2
            clear HU1 hrb2 HGB
            have HU1 := HU1F
            clear HU1F
            have z0 : wF.cell? ⟨w7.heap.size, 0, none⟩ = some (.int .i64 sn) := HKF.out.cell 0
            have z1 : wF.cell? ⟨w7.heap.size, 1, none⟩ = some (.slice pr rows.length cr) := HKF.out.cell 1
            have hal8 : Below wF.heap.size wF (wF.alloc (.cells #[.int .i64 sn, .slice pr rows.length cr] 38)) := (Below.refl _ _).alloc (Nat.le_refl _) _
            have ho1 := HOWNF.out.below hal8
            have hs1 : Sl (wF.alloc (.cells #[.int .i64 sn, .slice pr rows.length cr] 38)) (fun _ => True) 2 (.slice (some ⟨wF.heap.size, 0, none⟩) 1 1) 1 (batCells [⟨sn, .slice pr rows.length cr, rows⟩]) :=
              (Own.made wF 38 2 (batCells [⟨sn, .slice pr rows.length cr, rows⟩]) [] 1 1 rfl (by intro u hu; simp [batCells, BatV.cells] at hu; rcases hu with rfl | rfl <;> rfl) (Nat.le_refl _) (by simp [maxLen]) (by simp [batCells, BatV.cells])).sl (fun _ _ => trivial)
            have HAL8 := Lib.hid hal8
            have hla2 : acc.length ≤ 10000000 := by have := HLB.out (by first | rfl | trivial); omega
            clear hal8
            go_wp2_with (at_builtin; refine wpList_app rfl _ _ rfl elemBat2 (by rfl) ho1 (by rfl) hs1 (by unfold maxLen; omega) (by omega) ?_; intro v1 w9 g1 g2 g3 g4 g5; clear ho1 hs1; have G1 := Lib.hid g1; have G2 := Lib.hid g2; have G3 := Lib.hid g3; clear g1 g2 g3 g4 g5)
            have hnewlt : ∀ q, (Value.slice pv acc.length cv2).ownBlock = some q → q < wr.heap.size := HOWN.out.lt
            have hw7 : wr.heap.size ≤ w7.heap.size := HW7.out
            have hmv : ∀ x : BatV, RowsAt wF (fun q => w.heap.size + 2 ≤ q ∧ q < wF.heap.size ∧ (Value.slice pv acc.length cv2).ownBlock ≠ some q) x.v x.rows → RowsAt w9 (fun q => w.heap.size + 2 ≤ q ∧ v1.ownBlock ≠ some q) x.v x.rows := fun x h => by
              have hq9 : ∀ q, (w.heap.size + 2 ≤ q ∧ q < wF.heap.size ∧ (Value.slice pv acc.length cv2).ownBlock ≠ some q) → w.heap.size + 2 ≤ q ∧ v1.ownBlock ≠ some q := fun q hq => ⟨hq.1, fun h9 => by
                rcases G3.out with h1 | h1
                · rw [h1] at h9; exact hq.2.2 h9
                · rw [h1] at h9
                  have : wF.heap.size + 1 = q := by simpa using h9
                  omega⟩
              have h8 := h.below HAL8.out
              exact ⟨h8.1.mono G2.out.size (fun q hq hl => G2.out.block q hl hq.2.2) (fun q hq _ => hq9 q hq), fun r hr => (h8.2 r hr).mono G2.out.size (fun q hq hl => G2.out.block q hl hq.2.2) (fun q hq _ => hq9 q hq)⟩
            refine ⟨⟨m, bF, lF, by go_num, by omega, acc ++ [⟨sn, .slice pr rows.length cr, rows⟩], ?_, fun q hq => ?_, fun x hx => ?_, ?_, ?_, ?_, ?_, fun hb => ?_, ?_, ?_⟩, by (simp [intOf]) <;> omega⟩
            · rw [List.length_append, batCells_app]; exact G1.out
            · rcases G3.out with h | h
              · rw [h] at hq; exact HNEW.out q hq
              · rw [h] at hq
                have : wF.heap.size + 1 = q := by simpa using hq
                have := HSF.out
                omega
            · rcases List.mem_append.1 hx with hx | hx
              · refine hmv x ?_
                have h8 := HROWSF.out x hx
                exact ⟨h8.1.mono (Nat.le_refl _) (fun _ _ _ => rfl) (fun q hq hl => ⟨hq.1, hl, hq.2⟩), fun r hr => (h8.2 r hr).mono (Nat.le_refl _) (fun _ _ _ => rfl) (fun q hq hl => ⟨hq.1, hl, hq.2⟩)⟩
              · rw [List.mem_singleton.1 hx]
                refine hmv ⟨sn, .slice pr rows.length cr, rows⟩ ?_
                have h8 := HXRF.out
                have hq8 : ∀ q, wr.heap.size ≤ q → q < wF.heap.size → w.heap.size + 2 ≤ q ∧ q < wF.heap.size ∧ (Value.slice pv acc.length cv2).ownBlock ≠ some q := fun q hq hl => ⟨by omega, hl, fun h => by have := hnewlt q h; omega⟩
                exact ⟨h8.1.mono (Nat.le_refl _) (fun _ _ _ => rfl) (fun q hq hl => hq8 q hq hl), fun r hr => (h8.2 r hr).mono (Nat.le_refl _) (fun _ _ _ => rfl) (fun q hq hl => hq8 q hq hl)⟩
            · refine (HRDF.out.below HAL8.out).only G2.out (fun q hq h => ?_) (fun q hq h => ?_)
              · have h1 := HNEW.out q hq
                have h2 := mine_eq h
                omega
              · have h1 := HNEW.out q hq
                omega
            · have h8 := HBF.out.trans (HAL8.out.mono HBF.out.size)
              exact h8.trans (G2.out.below h8.size (fun q hq => by have := HNEW.out q hq; omega))
            · rw [List.map_append, List.append_assoc]
              exact HU1.out
            · exact HU2.out
            · have := HBL.out hb
              have := HLB.out (by first | rfl | trivial)
              rw [List.length_append]; simp only [List.length_cons, List.length_nil]; omega
            · rw [List.length_append]; simp only [List.length_cons, List.length_nil]; omega
            · have h8 := HAL8.out.size
              have h9 := G2.out.size
              have := HSF.out
              omega
end Go.Proofs.Ytdhdphmehjkbnaa
