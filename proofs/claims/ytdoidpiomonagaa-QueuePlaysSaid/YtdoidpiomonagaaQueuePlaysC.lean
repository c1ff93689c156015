/- The law QueuePlays where there are too many acts, or no queue. -/
import Derived.Test.YtdoidpiomonagaaQueuePlaysB
namespace Go.Proofs.Ytdoidpiomonagaa
open Go.RowKit Go.Afx

set_option maxRecDepth 100000 in
set_option maxHeartbeats 8000000 in
theorem plays_long (room : Int) (p : Option Addr) (cap : Nat) (acts : List ActV) (ask : Int) (w : World) (d1 : (60 : Int) < acts.length) :
    Calls Try.prog 3 #[.int .i64 room, .slice p acts.length cap, .int .i64 ask] w fun e w' => e = .returned (.bool true) ∧ Below w.heap.size w w' := by
  go_enter Try.func3, Try.ntmps3
  go_wp2_with (go_at_call 13; refine (qawake _).mono ?_; rintro e w1 ⟨rfl, hb1⟩)
  go_ret
  exact ⟨rfl, hb1⟩

set_option maxRecDepth 100000 in
set_option maxHeartbeats 8000000 in
theorem plays_no (room : Int) (p : Option Addr) (cap : Nat) (acts : List ActV) (ask : Int) (w : World) (d1 : ¬ (60 : Int) < acts.length) (hroom : room < 1 ∨ 10000 < room) :
    Calls Try.prog 3 #[.int .i64 room, .slice p acts.length cap, .int .i64 ask] w fun e w' => e = .returned (.bool true) ∧ Below w.heap.size w w' := by
  have HN := Lib.hid (fun w => new_no room w hroom)
  by_cases h1 : room < 1
  · clear hroom
    go_enter Try.func3, Try.ntmps3
    go_wp2_with (first
      | (go_at_call 13; refine (qawake _).mono ?_; rintro e w1 ⟨rfl, hb1⟩)
      | (go_at_call 14; refine (HN.out _).mono ?_; rintro e w' ⟨rfl, rfl⟩))
    go_ret
    exact ⟨rfl, hb1⟩
  · have h2 : 10000 < room := by omega
    clear hroom
    go_enter Try.func3, Try.ntmps3
    go_wp2_with (first
      | (go_at_call 13; refine (qawake _).mono ?_; rintro e w1 ⟨rfl, hb1⟩)
      | (go_at_call 14; refine (HN.out _).mono ?_; rintro e w' ⟨rfl, rfl⟩))
    go_ret
    exact ⟨rfl, hb1⟩
end Go.Proofs.Ytdoidpiomonagaa
