/- Numbers and bytes as lists: words that all texts share. -/
import Derived.Test.YtedcljahcedpjaaProg
import Derived.Test.YtedcljahcedpjaaStr
import Derived.Test.YtedcljahcedpjaaOpen
import Derived.Lib.Hide
import Derived.Lib.SliceRun
namespace Go.Proofs.Ytedcljahcedpjaa
open Go.RowKit Go.Afx

def ints (l : List Int) : List Value := l.map (Value.int .i64)
theorem ints_length (l : List Int) : (ints l).length = l.length := by simp [ints]
theorem ints_append (a b : List Int) : ints (a ++ b) = ints a ++ ints b := by simp [ints]
theorem ints_take (l : List Int) (n : Nat) : (ints l).take n = ints (l.take n) := by simp [ints, List.map_take]
theorem ints_drop (l : List Int) (n : Nat) : (ints l).drop n = ints (l.drop n) := by simp [ints, List.map_drop]
theorem ints_ones (l : List Int) : Ones (ints l) := by
  intro u hu
  obtain ⟨x, _, rfl⟩ := List.mem_map.1 hu
  rfl
theorem elemU8 : Elem Try.prog 88 5 1 1 (.int .u8 0) :=
  ⟨Try.underlying88, by kernel_rfl, rfl, by omega, by intro u hu; simp [Value.cells] at hu; subst hu; rfl⟩
def by8 (l : List UInt8) : List Value := l.map fun c => .int .u8 (c.toNat : Int)
theorem by8_length (l : List UInt8) : (by8 l).length = l.length := by simp [by8]
theorem by8_append (a b : List UInt8) : by8 (a ++ b) = by8 a ++ by8 b := by simp [by8]
theorem by8_get (l : List UInt8) (k : Nat) (h : k < l.length) : (by8 l)[k]? = some (.int .u8 (l[k].toNat : Int)) := by simp [by8, h]
theorem by8_ones (l : List UInt8) : Ones (by8 l) := by
  intro u hu
  obtain ⟨x, _, rfl⟩ := List.mem_map.1 hu
  rfl
/-- Bytes as a string. -/
def bs (l : List UInt8) : ByteArray := ⟨l.toArray⟩
theorem bs_append (a b : List UInt8) : bs a ++ bs b = bs (a ++ b) := by
  apply ByteArray.ext
  simp [bs]
theorem bs_size (l : List UInt8) : (bs l).size = l.length := by
  show l.toArray.size = _
  simp
theorem bs_data (l : List UInt8) : (bs l).data.toList = l := by simp [bs]
theorem bs_nil : bs [] = ⟨#[]⟩ := rfl
theorem bs_of (s : ByteArray) : bs s.data.toList = s := rfl
theorem cv_byte (w : World) (x : Nat) (hx : x < 256) : (convert 88 9 (.slice (some ⟨w.heap.size, 0, none⟩) 1 1)).run Try.prog (w.alloc (.cells #[.int .u8 (x : Int)] 5)) = .ok (.string (bs [UInt8.ofNat x])) (w.alloc (.cells #[.int .u8 (x : Int)] 5)) :=
  run_convert_bytes_back (P := Try.prog) (w.alloc (.cells #[.int .u8 (x : Int)] 5)) 88 9 5 ⟨w.heap.size, 0, none⟩ 1 [UInt8.ofNat x] Try.underlying88 Try.underlying5 Try.underlying9 (fun j hj => by
    obtain rfl : j = 0 := by simpa using hj
    have h1 : (⟨w.heap.size, 0, none⟩ : Addr).add 0 = ⟨w.heap.size, 0, none⟩ := Addr.add_lit _ _ _
    rw [h1]
    have h2 := (Blk.new w 5 [.int .u8 (x : Int)]).cell 0
    rw [show (w.alloc (.cells #[.int .u8 (x : Int)] 5)) = (w.alloc (.cells [.int .u8 (x : Int)].toArray 5)) from rfl, h2]
    have h3 : (UInt8.ofNat x).toNat = x := by rw [UInt8.toNat_ofNat']; omega
    simp only [List.getElem?_cons_zero, List.getElem_cons_zero, h3])
theorem cv_block (w : World) (l : List UInt8) : (convert 88 9 (.slice (some ⟨w.heap.size, 0, none⟩) l.length l.length)).run Try.prog (w.alloc (.cells (by8 l).toArray 5)) = .ok (.string (bs l)) (w.alloc (.cells (by8 l).toArray 5)) :=
  run_convert_bytes_back (P := Try.prog) (w.alloc (.cells (by8 l).toArray 5)) 88 9 5 ⟨w.heap.size, 0, none⟩ l.length l Try.underlying88 Try.underlying5 Try.underlying9 (fun j hj => by
    have h1 : (⟨w.heap.size, 0, none⟩ : Addr).add j = ⟨w.heap.size, j, none⟩ := by rw [Addr.add_lit, Nat.zero_add]
    rw [h1, (Blk.new w 5 (by8 l)).cell j]
    exact by8_get l j hj)
theorem sl_string (w : World) (B : Nat → Prop) (v : Value) (l : List UInt8) (h : Sl w B 1 v l.length (by8 l)) :
    (convert 88 9 v).run Try.prog w = .ok (.string ⟨l.toArray⟩) w := by
  rcases h.2.2 with ⟨p, cap, rfl, h0, _, hp⟩ | ⟨g, off, cap, rfl, _, _, _, _, hc⟩
  · obtain rfl : l = [] := List.eq_nil_of_length_eq_zero h0
    cases p with
    | none => obtain rfl := hp rfl; kernel_rfl
    | some a => exact run_convert_bytes_back (P := Try.prog) w 88 9 5 a cap [] Try.underlying88 Try.underlying5 Try.underlying9 (fun j hj => absurd hj (Nat.not_lt_zero _))
  · exact run_convert_bytes_back (P := Try.prog) w 88 9 5 ⟨g, off, none⟩ cap l Try.underlying88 Try.underlying5 Try.underlying9 (fun j hj => by
      rw [Addr.add_lit, hc j (by rw [by8_length]; exact hj)]
      exact by8_get l j hj)
theorem one_byte (w : World) (c : UInt8) : Sl (w.alloc (.cells #[.int .u8 (c.toNat : Int)] 5)) (fun _ => True) 1 (.slice (some ⟨w.heap.size, 0, none⟩) 1 1) 1 (by8 [c]) :=
  (Own.made w 5 1 [.int .u8 (c.toNat : Int)] [] 1 1 rfl (Ones.nil.cons rfl) (Nat.le_refl _) (by simp [maxLen]) (by simp)).sl (fun _ _ => trivial)
theorem own_form {w : World} {e : TypeId} {sz : Nat} {v : Value} {n : Nat} {cs : List Value} (h : Own w e sz v n cs) : ∃ p cap, v = .slice p n cap ∧ n ≤ cap ∧ cap ≤ 9223372036854775807 :=
  (h.sl (B := fun _ => True) (fun _ _ => trivial)).form
end Go.Proofs.Ytedcljahcedpjaa
