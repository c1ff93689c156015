/- The law CalcTexts: what the walk shows. -/
import Derived.Test.YtdoidpiomonagaaRefParse
import Derived.Test.YtdoidpiomonagaaCalcBack
namespace Go.Proofs.Ytdoidpiomonagaa
open Go.RowKit Go.Afx

set_option maxRecDepth 100000 in
theorem texts_walk (s : ByteArray) (_ : s.size ≤ maxLen) (n : Int) (wn : (Lit.int .i64 n).wf = true) (w : World) :
    Calls Try.prog 11 #[.string s, .int .i64 n] w fun e w' => e = .returned (.bool true) ∧ Below w.heap.size w w' := by
  have hn := wf_fits wn
  by_cases hlen : 60 < s.size
  · have d1 : (60 : Int) < s.size := by omega
    go_enter Try.func11, Try.ntmps11
    go_wp2_with (go_at_call 26; refine (awake_true _).mono ?_; rintro e w2 ⟨rfl, hb2⟩)
    go_ret
    exact ⟨rfl, hb2⟩
  have d1 : (s.size : Int) ≤ 60 := by omega
  obtain ⟨l, hl⟩ : ∃ l, s.data.toList = l := ⟨_, rfl⟩
  have hll : l.length ≤ 1000 := by rw [← size_list s l hl]; omega
  have CP := Lib.hid (fun w => parse_any w s l hl hll)
  have CR := Lib.hid (fun w => refparse_any w s l hl hll)
  have CT := Lib.hid (fun w => print_any w n hn)
  have CQ := Lib.hid (fun w => refprint_any w n hn)
  clear hl hll hn wn hlen
  generalize prsN l = pn at *
  generalize prsE l = pe at *
  generalize (⟨(printL n).toArray⟩ : ByteArray) = t at *
  go_enter Try.func11, Try.ntmps11
  go_wp2_with (first
    | (go_at_call 45; refine (CP.out _).mono ?_; rintro e w2 ⟨rfl, hb2⟩)
    | (go_at_call 46; refine (CR.out _).mono ?_; rintro e w3 ⟨rfl, hb3⟩)
    | (go_at_call 47; refine (CT.out _).mono ?_; rintro e w4 ⟨rfl, hb4⟩)
    | (go_at_call 48; refine (CQ.out _).mono ?_; rintro e w5 ⟨rfl, hb5⟩)
    | (go_at_call 26; refine (awake_true _).mono ?_; rintro e w6 ⟨rfl, hb6⟩))
  go_ret
  have h3 := hb2.trans (hb3.mono hb2.size)
  have h4 := h3.trans (hb4.mono h3.size)
  have h5 := h4.trans (hb5.mono h4.size)
  exact ⟨rfl, h5.trans (hb6.mono h5.size)⟩
end Go.Proofs.Ytdoidpiomonagaa
