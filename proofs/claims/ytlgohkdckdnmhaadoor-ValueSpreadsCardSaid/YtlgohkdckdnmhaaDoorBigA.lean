/- The document's numbers (lists of digits): trim, sign, Of, at, less. -/
import Derived.Test.YtlgohkdckdnmhaaDoorCalcE
import Derived.Test.YtlgohkdckdnmhaaDoorNum
import Derived.Test.YtlgohkdckdnmhaaDoorSlices
namespace Go.Proofs.YtlgohkdckdnmhaaDoor
open Go.RowKit Go.Afx

def nats (d : List Nat) : List Value := ints (d.map fun n : Nat => (n : Int))
def slLen : Value → Nat
  | .slice _ n _ => n
  | _ => 0
theorem nats_get (d : List Nat) (k : Nat) (h : k < d.length) : (nats d)[k]? = some (.int .i64 (d[k] : Int)) := by simp [nats, ints, h]
theorem nats_length (d : List Nat) : (nats d).length = d.length := by simp [nats, ints]
theorem nats_append (a b : List Nat) : nats (a ++ b) = nats a ++ nats b := by simp [nats, ints]
theorem nats_take (d : List Nat) (k : Nat) : (nats d).take k = nats (d.take k) := by simp [nats, ints, List.map_take]
theorem nats_set (d : List Nat) (k x : Nat) : (nats d).set k (.int .i64 (x : Int)) = nats (d.set k x) := by simp [nats, ints, List.map_set]

/-- The number z, as the document keeps it. -/
def IsNum (w : World) (B : Nat → Prop) (v : Value) (z : Int) : Prop :=
  ∃ dv, v = .agg #[.bool (decide (z < 0)), dv] ∧ Sl w B 1 dv (ld z.natAbs).length (nats (ld z.natAbs))
theorem IsNum.below {w w' : World} {B : Nat → Prop} {v : Value} {z : Int} (h : IsNum w B v z) (hb : Below w.heap.size w w') : IsNum w' B v z := by
  obtain ⟨dv, rfl, h2⟩ := h
  exact ⟨dv, rfl, h2.below hb⟩

theorem sl_nat {w : World} {B : Nat → Prop} {v : Value} {d : List Nat} (h : Sl w B 1 v d.length (nats d)) {k : Nat} (hk : k < d.length) :
    ∃ g off cap, v = .slice (some ⟨g, off, none⟩) d.length cap ∧ g < w.heap.size ∧ w.cell? ⟨g, off + k, none⟩ = some (.int .i64 (d[k] : Int)) := by
  obtain ⟨g, off, cap, hv, _, _, hgb, hglt, hc⟩ := h.place (by omega)
  exact ⟨g, off, cap, hv, hglt, by rw [hc k (by rw [nats_length]; exact hk), nats_get d k hk]⟩

set_option maxRecDepth 100000 in
theorem trim_any (w : World) (B : Nat → Prop) (v : Value) (d : List Nat) (hd : D10 d) (hl : Sl w B 1 v d.length (nats d)) (_ : d.length ≤ 1000000) :
    Calls Tryd.prog 124 #[v] w fun e w' => ∃ v', e = .returned v' ∧ Sl w B 1 v' (ld (vd d)).length (nats (ld (vd d))) ∧ w = w' := by
  obtain ⟨p, cap, rfl, hc1, hc2⟩ := hl.form
  have HL := Lib.hid hl
  have HD := Lib.hid hd
  clear hl hd
  go_enter Tryd.func124, Tryd.ntmps124
  go_wp2
  go_loopw [0] (fun x wr => ∃ k : Nat, x = .slice p k cap ∧ k ≤ d.length ∧ vd (d.take k) = vd d ∧ w = wr) (fun x _ => slLen x)
  case atStart => exact ⟨d.length, rfl, Nat.le_refl _, by rw [List.take_length], rfl⟩
  case round =>
    obtain ⟨k, rfl, hk, hv, rfl⟩ := hrel
    have HV := Lib.hid hv
    clear hv
    rcases Nat.eq_zero_or_pos k with rfl | hpos
    · go_wp2
      go_ret
      refine ⟨_, rfl, ?_, rfl⟩
      have e : vd d = 0 := by rw [← HV.out]; rfl
      rw [e, ld_zero]
      have := HL.out.take (Nat.zero_le d.length)
      simpa [nats, ints] using this
    · obtain ⟨j, rfl⟩ : ∃ j, k = j + 1 := ⟨k - 1, by omega⟩
      have hj : j < d.length := by omega
      obtain ⟨g, off, cap', hvv, hglt, hck⟩ := sl_nat HL.out hj
      cases hvv
      have HN := Lib.hid (vd_next d j)
      have hg : d.getD j 0 = d[j] := by simp [List.getD, hj]
      by_cases h0 : d[j] = 0
      · rw [h0] at hck
        clear hg
        go_wp2
        refine ⟨⟨j, rfl, by omega, ?_, trivial⟩, by show j < j + 1; omega⟩
        have := HN.out
        rw [HV.out] at this
        rw [this]
        simp [List.getD, hj, h0]
      · have h1 : ((d[j] : Int) == 0) = false := by rw [beq_eq_false_iff_ne]; omega
        have hcn : Hid (d.take (j + 1) = ld (vd d)) := by
          show _ = _
          rw [← HV.out, ← List.take_append_getElem hj]
          refine canon _ _ ?_ h0
          rw [List.take_append_getElem hj]; exact HD.out.take _
        generalize (d[j] : Int) = x at *
        clear hg h0
        go_wp2
        go_ret
        refine ⟨_, rfl, ?_, rfl⟩
        have := HL.out.take (m := j + 1) (by omega)
        rw [Nat.mul_one, nats_take] at this
        rw [← hcn.out, List.length_take, Nat.min_eq_left (by omega)]
        exact this

theorem Sl.lift {w w' : World} {B : Nat → Prop} {sz : Nat} {v : Value} {n : Nat} {cs : List Value} (h : Sl w B sz v n cs) (hb : Below w.heap.size w w') : Sl w' (fun k => k < w.heap.size ∧ B k) sz v n cs :=
  h.mono hb.size (fun k _ hk => hb.block k hk) (fun _ h1 h2 => ⟨h2, h1⟩)
theorem Sl.back {w w' : World} {B : Nat → Prop} {sz : Nat} {v : Value} {n : Nat} {cs : List Value} (h : Sl w' (fun k => k < w.heap.size ∧ B k) sz v n cs) (hb : Below w.heap.size w w') : Sl w B sz v n cs := by
  refine ⟨h.1, h.2.1, ?_⟩
  rcases h.2.2 with h2 | ⟨b, o, cap, e1, e2, e3, e4, _, e6⟩
  · exact .inl h2
  · exact .inr ⟨b, o, cap, e1, e2, e3, e4.2, e4.1, fun j hj => by rw [← e6 j hj]; exact (hb.cell (p := ⟨b, o + j, none⟩) e4.1).symm⟩

theorem sgn_law (neg : Bool) (u : Nat) : (neg && decide (0 < (ld u).length)) = decide (sgn neg (u : Int) < 0) ∧ (sgn neg (u : Int)).natAbs = u := by
  have h := ld_nil_iff u
  cases neg
  · refine ⟨?_, by simp [sgn]⟩
    rw [Bool.false_and]
    symm
    apply decide_eq_false
    unfold sgn
    simp
  · refine ⟨?_, by simp [sgn]⟩
    rw [Bool.true_and]
    apply decide_eq_decide.2
    unfold sgn
    simp
    omega

theorem sign_any (w : World) (B : Nat → Prop) (neg : Bool) (v : Value) (d : List Nat) (hd : D10 d) (hl : Sl w B 1 v d.length (nats d)) (hlen : d.length ≤ 1000000) :
    Calls Tryd.prog 104 #[.bool neg, v] w fun e w' => ∃ v', e = .returned v' ∧ IsNum w' B v' (sgn neg (vd d)) ∧ Below w.heap.size w w' := by
  have HT : Hid (∀ w' : World, Below w.heap.size w w' → Calls Tryd.prog 124 #[v] w' fun e w2 => ∃ v', e = .returned v' ∧ Sl w B 1 v' (ld (vd d)).length (nats (ld (vd d))) ∧ w' = w2) :=
    fun w' h => (trim_any w' _ v d hd (Sl.lift hl h) hlen).mono fun e w2 ⟨v', h1, h2, h3⟩ => ⟨v', h1, Sl.back h2 h, h3⟩
  obtain ⟨e1, e2⟩ := sgn_law neg (vd d)
  obtain ⟨p, cap, rfl, hc1, hc2⟩ := hl.form
  have E1 := Lib.hid e1
  have E2 := Lib.hid e2
  have hle : (ld (vd d)).length ≤ d.length := ld_len_le _ _ (vd_lt d hd)
  clear hd hl e1 e2
  generalize sgn neg (vd d) = z at *
  generalize hq : ld (vd d) = q at *
  have HQ := Lib.hid hq
  clear hq
  cases neg
  · have E3 : Hid (decide (z < 0) = false) := by rw [← E1.out]; exact Lib.hid (Bool.false_and _)
    go_enter Tryd.func104, Tryd.ntmps104
    go_wp2_with (go_at_call 124; refine (HT.out _ ((Below.refl _ _).alloc (Nat.le_refl _) _)).mono ?_; rintro e w2 ⟨v2, rfl, h2, rfl⟩; obtain ⟨p2, cap2, rfl, hd1, hd2⟩ := h2.form; have H2 := Lib.hid h2; clear h2)
    refine bodyPost_ret (v := .agg #[.bool false, .slice p2 q.length cap2]) (by simp [results, Tryd.results104, go_sem]) rfl ⟨_, rfl, ⟨_, by rw [E3.out], ?_⟩, ?_⟩
    · rw [E2.out, HQ.out]
      refine H2.out.below ?_
      repeat (with_reducible first | exact Below.refl _ _ | apply Below.drew | (refine Below.alloc ?_ (by first | omega | (simp; omega) | simp) _) | (refine Below.setCell ?_ (by first | omega | (simp; omega) | simp) _))
    · skip
      repeat (with_reducible first | exact Below.refl _ _ | apply Below.drew | (refine Below.alloc ?_ (by first | omega | (simp; omega) | simp) _) | (refine Below.setCell ?_ (by first | omega | (simp; omega) | simp) _))
  · have E3 : Hid (decide (z < 0) = decide (0 < q.length)) := by rw [← E1.out]; exact Lib.hid (Bool.true_and _)
    go_enter Tryd.func104, Tryd.ntmps104
    go_wp2_with (go_at_call 124; refine (HT.out _ ((Below.refl _ _).alloc (Nat.le_refl _) _)).mono ?_; rintro e w2 ⟨v2, rfl, h2, rfl⟩; obtain ⟨p2, cap2, rfl, hd1, hd2⟩ := h2.form; have H2 := Lib.hid h2; clear h2)
    refine bodyPost_ret (v := .agg #[.bool (decide (0 < q.length)), .slice p2 q.length cap2]) (by simp [results, Tryd.results104, go_sem]) rfl ⟨_, rfl, ⟨_, by rw [E3.out], ?_⟩, ?_⟩
    · rw [E2.out, HQ.out]
      refine H2.out.below ?_
      repeat (with_reducible first | exact Below.refl _ _ | apply Below.drew | (refine Below.alloc ?_ (by first | omega | (simp; omega) | simp) _) | (refine Below.setCell ?_ (by first | omega | (simp; omega) | simp) _))
    · skip
      repeat (with_reducible first | exact Below.refl _ _ | apply Below.drew | (refine Below.alloc ?_ (by first | omega | (simp; omega) | simp) _) | (refine Below.setCell ?_ (by first | omega | (simp; omega) | simp) _))
end Go.Proofs.YtlgohkdckdnmhaaDoor
