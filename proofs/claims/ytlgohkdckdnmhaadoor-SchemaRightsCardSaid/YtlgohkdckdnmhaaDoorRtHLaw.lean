/- The law SchemaRights: for every input it returns true and leaves all that was there as it was. No condition. -/
import Derived.Test.YtlgohkdckdnmhaaDoorRows
import Derived.Test.YtlgohkdckdnmhaaDoorTie
import Derived.Test.YtlgohkdckdnmhaaDoorCards
import Derived.Test.YtlgohkdckdnmhaaDoorShape
import Derived.Test.YtlgohkdckdnmhaaDoorMx
import Derived.Lay
import Derived.LaidMore
import Derived.SevenTiedAt
import Derived.Test.YtlgohkdckdnmhaaDoorRtH
import Derived.ProofKit
import Derived.OpenShut
import Derived.ShutString
import Derived.ChangeOld
namespace Go.Proofs.YtlgohkdckdnmhaaDoor.schemaRights
open Go.ChangeShapes Go.WideShapes Go.ChangeAt Go.RowKit Go.Afx
open Go.ChangeMaps (open_string shut_string)
set_option linter.unusedVariables false

theorem own : ownKnob Tryd.prog.godebug = none := by kernel_rfl
theorem laidOut : laidOutB Tryd.prog = true := by kernel_rfl

set_option maxRecDepth 100000 in
theorem lifted (os : Os) (started : os.Started) (H : Type) (enc : TypeId × Value → H) :
    ReturnsInHanded {} Tryd.checked os 11 .any (fun w args => (Rows.schemaRightsSpec.pre enc Tryd.prog Tryd.f11 Rows.schemaRightsRow.domain false w args ∧ laidMetH Tryd.prog Rows.schemaRightsRow.laid w) ∧ sizedMet enc Tryd.prog Tryd.f11 (OpenSpec.ofChange Rows.schemaRightsSpec) false w args) (Rows.schemaRightsSpec.post enc Tryd.prog Tryd.f11 false true false false) := by
  refine returnsInHanded_of_laid (C := Tryd.checked) (X := fun w _ => laidMetH Tryd.prog Rows.schemaRightsRow.laid w) (fun _ _ _ hh h => h.of_heap hh) own started (by kernel_rfl) Tryd.func11
    (ChangeSpec.witness_shaped (enc := enc) (C := Tryd.checked) (os := os) (X := fun w _ => laidMetH Tryd.prog Rows.schemaRightsRow.laid w) false (World.laidAll Tryd.prog os Rows.schemaRightsRow.laid) #[.agg #[.string .empty, .slice none 0 0, .slice none 0 0, .int .i64 0, .int .i64 0, .int .i64 0], .agg #[.string .empty, .slice none 0 0, .slice none 0 0, .int .i64 0, .int .i64 0, .int .i64 0], .string .empty] 8 (World.laidAll_os _ _ _)
      (World.shaped_of_ZipB (by kernel_rfl) (by kernel_rfl)) (by kernel_rfl) (by kernel_rfl) (by kernel_rfl)
      (by rw [MakeChecks.laidMetH_plain _ _ _ (by kernel_rfl)]; exact laidMet_laidAll _ (by kernel_rfl) (by kernel_rfl))) ?_
  intro W base args ds gs before hval0 hW _ hsh
  have hval : ∀ (j : Nat) t v, Tryd.f11.params[j]? = some t → args[j]? = some v → Value.okWide Tryd.prog W .any base t v := hval0
  have hW' := hW
  obtain ⟨p, q, hA0, hV, rfl, hfz, hnd⟩ := hW
  have hA : DataW.TrodAll enc Tryd.prog W 0 (fun _ => true) true Tryd.f11.params.toList args.toList ds p := hA0
  rw [Tryd.params11] at hA hval
  obtain ⟨v0, vs0, d0, ds0, p0, q0, hargs, rfl, rfl, h0, r0⟩ := trodAll_cons hA
  obtain ⟨v1, vs1, d1, ds1, p1, q1, rfl, rfl, rfl, h1, r1⟩ := trodAll_cons r0
  obtain ⟨v2, vs2, d2, ds2, p2, q2, rfl, rfl, rfl, h2, r2⟩ := trodAll_cons r1
  obtain ⟨rfl, rfl, rfl⟩ := trodAll_nil r2
  obtain rfl : args = #[v0, v1, v2] := by cases args; simp_all
  obtain ⟨rfl, rfl⟩ := trodVars_none hV
  have k0 := h0
  have lt0 : ∀ x ∈ p0, x.block < W.heap.size := by obtain ⟨m, hm⟩ := k0; exact DataW.trod_lt m _ _ _ hm
  obtain ⟨x0, rfl, z0⟩ := okWide_struct Tryd.underlying47 (hval 0 47 v0 rfl rfl)
  obtain ⟨b0, o0⟩ := open_sch k0 (z0.trans (by kernel_rfl))
  have k1 := h1
  have lt1 : ∀ x ∈ p1, x.block < W.heap.size := by obtain ⟨m, hm⟩ := k1; exact DataW.trod_lt m _ _ _ hm
  obtain ⟨x1, rfl, z1⟩ := okWide_struct Tryd.underlying47 (hval 1 47 v1 rfl rfl)
  obtain ⟨b1, o1⟩ := open_sch k1 (z1.trans (by kernel_rfl))
  obtain ⟨a2, rfl, rfl, rfl, w2⟩ := open_string Tryd.underlying9 (hval 2 9 v2 rfl rfl) h2
  clear hA0 hval0
  refine (scRights_law _ b0 _ b1 a2 w2 W (mx_of hsh) o0 o1).mono fun e W' ⟨he, bel⟩ => ?_
  subst he
  exact ⟨_, rfl, _, _, _, [], _, [], hW', trodAll_mk1 (shut_bool Tryd.underlying4 _), (trodAll_cons_mk (Below.trod laidOut (by kernel_rfl) (of_decide_eq_true (by kernel_rfl)) k0 bel lt0) (trodAll_cons_mk (Below.trod laidOut (by kernel_rfl) (of_decide_eq_true (by kernel_rfl)) k1 bel lt1) (trodAll_cons_mk (shut_string Tryd.underlying9 w2) trodAll_mk0))), rfl, bel.frame _, fun h => by cases h⟩

theorem over : Rows.schemaRightsRow.holds Tryd.pinned (OpenSpec.ofChange Rows.schemaRightsSpec) :=
  OpenClaim.holds_of_wide 11 Tryd.f11 rfl rfl rfl rfl rfl rfl rfl ⟨rfl, rfl, rfl, rfl, rfl⟩ rfl rfl rfl rfl rfl (by kernel_rfl) Tryd.func11 (by kernel_rfl)
    (of_decide_eq_true (by kernel_rfl)) (by unfold Func.isWrapper; first | (rw [if_pos (by decide +kernel)]; kernel_rfl) | (rw [if_neg (by decide +kernel)]; exact ⟨rfl, rfl⟩))
    (fun os started H enc _ => lifted os started H enc)

theorem card : Rows.SchemaRightsCardSaid :=
  Claim7.holds_tied_plain_at .later [] [.data, .pinned] true (true, "44a05c6656fad0a98acfb041a4270392b8082a07142de41ef3bee6dd98f36de4") false over (fun _ h => by cases h) (by kernel_rfl) (fun _ h => by cases h) schemaRights_row_tie rfl ⟨rfl, rfl⟩ (by kernel_rfl) rfl
    (fun f fn hf hfn => by
      obtain rfl : f = 11 := Option.some.inj ((show Tryd.prog.funcNamed "afflux/affluxlaw03.SchemaRights" = some 11 by kernel_rfl).symm.trans hf) |>.symm
      obtain rfl : fn = Tryd.f11 := (Option.some.inj (Tryd.func11.symm.trans hfn)).symm
      exact ⟨by kernel_rfl, fun j t ht => by
        rw [Tryd.params11] at ht
        have hm : t ∈ [47, 47, 9] := by simpa using Array.mem_of_getElem? ht
        have hall : ([47, 47, 9].all fun u => !Tryd.prog.wantsStandIn u) = true := by kernel_rfl
        exact (show Tryd.prog.wantsStandIn t = false by simpa using List.all_eq_true.1 hall t hm)⟩)
    (by kernel_rfl)
theorem proved : Rows.SchemaRightsCardSaid := card
#print axioms proved
end Go.Proofs.YtlgohkdckdnmhaaDoor.schemaRights

