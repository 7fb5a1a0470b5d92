/-
  The law CoreNil returns true whatever the input, and leaves its input as it was: the row, and the card with what it lists tied to the program's text. No conditions. Printed by row.py.
-/
import Derived.Test.YteeiccjglmehcaaGreatRows
import Derived.Test.YteeiccjglmehcaaGreatSxCg
import Derived.WalkKit
import Derived.ProofKit
import Derived.Carry
import Derived.OpenShut
import Derived.ShutString
import Derived.ChangeOld
import Derived.Below
import Derived.SizedLaws
import Derived.LaidLaws
import Derived.Lay
import Derived.LaidOnce
import Derived.SevenTiedAt
import Derived.LaidMore
namespace Go.Proofs.YteeiccjglmehcaaGreat.coreNil
open Go Go.Sx Go.ChangeShapes Go.WideShapes Go.ChangeAt Go.RowKit
open Go.ChangeMaps (open_string shut_string)
set_option linter.unusedVariables false
theorem own : ownKnob Tryz.prog.godebug = none := by kernel_rfl
theorem laidOut : laidOutB Tryz.prog = true := by kernel_rfl
set_option maxRecDepth 100000 in
theorem lifted (os : Os) (started : os.Started) (H : Type) (enc : TypeId × Value → H) :
    ReturnsInHanded {} Tryz.checked os 6 .any (Rows.coreNilSpec.pre6 enc Tryz.prog Tryz.f6 Rows.coreNilRow.domain false) (Rows.coreNilSpec.post enc Tryz.prog Tryz.f6 false true false false) := by
  refine returnsInHanded_of_change_sized (C := Tryz.checked) own started (by kernel_rfl) Tryz.func6
    (ChangeSpec.witness6 (enc := enc) (C := Tryz.checked) false ⟨#[], #[.agg #[.int .i64 0, .int .i64 0, .int .i64 0, .int .i64 0, .int .i64 0, .string ByteArray.empty, .string ByteArray.empty, .string ByteArray.empty, .bool false, .bool false, .bool false, .bool false, .int .i64 0, .int .i64 0, .int .i64 0, .int .i64 0, .int .i64 0, .int .i64 0, .int .i64 0, .int .i64 0, .int .i64 0, .int .i64 0, .int .i64 0, .int .i64 0, .slice none 0 0, .int .i64 0, .bool false]], []⟩ 8 (by kernel_rfl) (by kernel_rfl) (by kernel_rfl) (by kernel_rfl)) ?_
  intro W base args ds gs before hval0 hW _ hsz0 _
  have hsz : (DataW.weightsEach Tryz.prog (Tryz.f6.params.toList ++ Rows.coreNilSpec.plain.varTypes Tryz.prog) (ds ++ gs)).all (· ≤ reachBytes) = true := hsz0
  have hval : ∀ (j : Nat) t v, Tryz.f6.params[j]? = some t → args[j]? = some v → Value.okWide Tryz.prog W .any base t v := hval0
  have hW' := hW
  obtain ⟨p, q, hA0, hV, rfl, hfz, hnd⟩ := hW
  have hA : DataW.TrodAll enc Tryz.prog W 0 (fun _ => true) true Tryz.f6.params.toList args.toList ds p := hA0
  rw [Tryz.params6] at hA hval hsz
  obtain ⟨v0, vs0, d0, ds0, p0, q0, hargs, rfl, rfl, h0, r0⟩ := trodAll_cons hA
  obtain ⟨rfl, rfl, rfl⟩ := trodAll_nil r0
  obtain rfl : args = #[v0] := by cases args; simp_all
  obtain ⟨rfl, rfl⟩ := trodVars_none hV
  obtain ⟨a0, rfl⟩ : ∃ cs, v0 = .agg cs := by have h := (hval 0 62 v0 rfl rfl); simp only [Value.okWide, Tryz.underlying62] at h; obtain ⟨cs, h1, _⟩ := h; exact ⟨cs, h1⟩
  have k0 := h0
  have lt0 : ∀ x ∈ p0, x.block < W.heap.size := by obtain ⟨m, hm⟩ := k0; exact DataW.trod_lt m _ _ _ hm
  have hw0 : ∀ y ∈ d0.weights Tryz.prog 62, y ≤ 140737488351232 := fun y hy => by have z := List.all_eq_true.1 hsz _ (DataW.weights_mem_each (j := 0) (t := 62) rfl rfl y hy); exact of_decide_eq_true z
  obtain ⟨m0, hm0⟩ := h0
  obtain ⟨_, e0, rd0⟩ := rd_of_trod (M := 140737488351232) 8 (.agg [.int .i64, .int .i64, .int .i64, .int .i64, .int .i64, .str, .str, .str, .agg [.agg [.bool, .bool, .bool, .bool], .agg [.int .i64, .int .i64, .int .i64, .int .i64], .agg [.int .i64, .int .i64], .agg [.agg [.int .i64, .int .i64], .agg [.int .i64, .int .i64]]], .agg [.int .i64, .int .i64, .sl (.int .i64) 8], .int .i64, .bool]) 62 m0 _ _ (by kernel_rfl) hm0 hw0
  obtain ⟨l0, rfl⟩ : ∃ l, e0 = Dv.agg l := by cases e0 <;> first | exact ⟨_, rfl⟩ | exact absurd rd0 (by simp [Rd])
  refine (Does.belowR (coraclelaw13_CoreNil_row W (.agg a0) _ rfl (l0) (rd0))).mono fun e W' ⟨he, bel⟩ => ?_
  subst he
  exact ⟨_, rfl, _, _, _, [], _, [], hW', trodAll_mk1 (shut_bool Tryz.underlying4 _), (trodAll_cons_mk (Below.trod laidOut (by kernel_rfl) (of_decide_eq_true (by kernel_rfl)) k0 bel lt0) trodAll_mk0), rfl, bel.frame _, fun h => by cases h⟩
theorem over : Rows.coreNilRow.holds Tryz.pinned (OpenSpec.ofChange Rows.coreNilSpec) :=
  OpenClaim.holds_of_wide 6 Tryz.f6 rfl rfl rfl rfl rfl rfl rfl ⟨rfl, rfl, rfl, rfl, rfl⟩ rfl rfl rfl rfl rfl (by kernel_rfl) Tryz.func6 (by kernel_rfl)
    (of_decide_eq_true (by kernel_rfl)) (by unfold Func.isWrapper; first | (rw [if_pos (by decide +kernel)]; kernel_rfl) | (rw [if_neg (by decide +kernel)]; exact ⟨rfl, rfl⟩))
    (fun os started H enc _ => lifted os started H enc)
theorem proved : Rows.CoreNilSaid := over
end Go.Proofs.YteeiccjglmehcaaGreat.coreNil
namespace Go.Proofs.YteeiccjglmehcaaGreat
theorem coreNil_holds : Rows.CoreNilSaid := coreNil.proved
#print axioms coreNil_holds
end Go.Proofs.YteeiccjglmehcaaGreat
