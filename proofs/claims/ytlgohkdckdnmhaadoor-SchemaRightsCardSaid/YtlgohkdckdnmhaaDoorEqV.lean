/- Values compared with == and !=. -/
import Derived.Test.YtlgohkdckdnmhaaDoorVal
namespace Go.Proofs.YtlgohkdckdnmhaaDoor
open Go.RowKit Go.Afx

/-- Two values' comparison, as the walk spells it. -/
def avEq (x y : AV) : Bool := x.kind == y.kind && x.n == y.n && x.s.toList == y.s.toList
theorem ba_toList_inj {A B : ByteArray} (h : A.toList = B.toList) : A = B := by
  rw [ByteArray.toList_eq, ByteArray.toList_eq] at h
  obtain ⟨a⟩ := A
  obtain ⟨b⟩ := B
  have : a = b := Array.toList_inj.1 h
  rw [this]
theorem avEq_iff (x y : AV) : avEq x y = true ↔ x = y := by
  unfold avEq
  obtain ⟨k, n, s⟩ := x
  obtain ⟨k', n', s'⟩ := y
  simp only [Bool.and_eq_true, beq_iff_eq]
  constructor
  · rintro ⟨⟨rfl, rfl⟩, h⟩
    rw [ba_toList_inj h]
  · intro h
    cases h
    exact ⟨⟨rfl, rfl⟩, rfl⟩
theorem ba_beq (s s' : ByteArray) : (s == s') = (s.toList == s'.toList) := by
  obtain ⟨a⟩ := s
  obtain ⟨b⟩ := s'
  rw [ByteArray.toList_eq, ByteArray.toList_eq]
  show (a == b) = (a.toList == b.toList)
  rw [Bool.eq_iff_iff]
  simp
theorem eqS (w : World) (d : Nat) (s s' : ByteArray) : (Op.equalIn (d + 1) 9 (.string s) (.string s')).run Tryd.prog w = .ok (s.toList == s'.toList) w := by
  rw [← ba_beq]
  simp [Op.equalIn, run_underlying Tryd.underlying9]
theorem eqI (w : World) (d : Nat) (s s' : Int) : (Op.equalIn (d + 1) 3 (.int .i64 s) (.int .i64 s')).run Tryd.prog w = .ok (s == s') w := by
  simp [Op.equalIn, run_underlying Tryd.underlying3]
theorem eqI2 (w : World) (d : Nat) (s s' : Int) : (Op.equalIn (d + 1) 2 (.int .i64 s) (.int .i64 s')).run Tryd.prog w = .ok (s == s') w := by
  simp [Op.equalIn, run_underlying Tryd.underlying2]
theorem eqV (w : World) (d : Nat) (k k' n n' : Int) (s s' : ByteArray) : (Op.equalIn (d + 2) 27 (.agg #[.int .i64 k, .int .i64 n, .string s]) (.agg #[.int .i64 k', .int .i64 n', .string s'])).run Tryd.prog w = .ok (k == k' && n == n' && s.toList == s'.toList) w := by
  have p0 : ∀ (x y z : Value) w, (part 3 #[x, y, z] 0).run Tryd.prog w = .ok x w := fun _ _ _ _ => by kernel_rfl
  have p1 : ∀ (x y z : Value) w, (part 2 #[x, y, z] 1).run Tryd.prog w = .ok y w := fun _ _ _ _ => by kernel_rfl
  have p2 : ∀ (x y z : Value) w, (part 9 #[x, y, z] 2).run Tryd.prog w = .ok z w := fun _ _ _ _ => by kernel_rfl
  rw [Op.equalIn]
  simp [run_underlying Tryd.underlying27, p0, p1, p2, eqI, eqI2, eqS]
  cases hk : (k == k') <;> cases hn : (n == n') <;> cases hs : (s.toList == s'.toList) <;> simp_all
@[go_sem] theorem eqlV (w : World) (k k' n n' : Int) (s s' : ByteArray) : (binOp .eql 27 (.agg #[.int .i64 k, .int .i64 n, .string s]) (.agg #[.int .i64 k', .int .i64 n', .string s'])).run Tryd.prog w = .ok (.bool (k == k' && n == n' && s.toList == s'.toList)) w := by
  simp only [binOp]
  simp [Op.equal, Op.maxDepth, eqV w 9998]
@[go_sem] theorem neqV (w : World) (k k' n n' : Int) (s s' : ByteArray) : (binOp .neq 27 (.agg #[.int .i64 k, .int .i64 n, .string s]) (.agg #[.int .i64 k', .int .i64 n', .string s'])).run Tryd.prog w = .ok (.bool (!(k == k' && n == n' && s.toList == s'.toList))) w := by
  simp only [binOp]
  simp [Op.equal, Op.maxDepth, eqV w 9998]
end Go.Proofs.YtlgohkdckdnmhaaDoor
