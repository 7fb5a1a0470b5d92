/-
  The law CoreBytes returns true whatever the input, and leaves its input as it was: the row, and the card with what it lists tied to the program's text. No conditions. Printed by row.py.
-/
import Derived.Test.YteeiccjglmehcaaGreatRows
import Derived.Test.YteeiccjglmehcaaGreatSxCe
import Derived.WalkKit
import Derived.ProofKit
import Derived.Carry
import Derived.OpenShut
import Derived.ShutString
import Derived.ChangeOld
import Derived.Below
import Derived.SizedLaws
import Derived.LaidLaws
import Derived.Lay
import Derived.LaidOnce
import Derived.SevenTiedAt
import Derived.LaidMore
namespace Go.Proofs.YteeiccjglmehcaaGreat.coreBytes
open Go Go.Sx Go.ChangeShapes Go.WideShapes Go.ChangeAt Go.RowKit
open Go.ChangeMaps (open_string shut_string)
set_option linter.unusedVariables false
theorem own : ownKnob Tryz.prog.godebug = none := by kernel_rfl
theorem laidOut : laidOutB Tryz.prog = true := by kernel_rfl
set_option maxRecDepth 100000 in
theorem lifted (os : Os) (started : os.Started) (H : Type) (enc : TypeId × Value → H) :
    ReturnsInHanded {} Tryz.checked os 5 .any (Rows.coreBytesSpec.pre6 enc Tryz.prog Tryz.f5 Rows.coreBytesRow.domain false) (Rows.coreBytesSpec.post enc Tryz.prog Tryz.f5 false true false false) := by
  refine returnsInHanded_of_change_sized (C := Tryz.checked) own started (by kernel_rfl) Tryz.func5
    (ChangeSpec.witness6 (enc := enc) (C := Tryz.checked) false ⟨#[], #[.slice none 0 0, .slice none 0 0, .int .i64 0], []⟩ 8 (by kernel_rfl) (by kernel_rfl) (by kernel_rfl) (by kernel_rfl)) ?_
  intro W base args ds gs before hval0 hW _ hsz0 _
  have hsz : (DataW.weightsEach Tryz.prog (Tryz.f5.params.toList ++ Rows.coreBytesSpec.plain.varTypes Tryz.prog) (ds ++ gs)).all (· ≤ reachBytes) = true := hsz0
  have hval : ∀ (j : Nat) t v, Tryz.f5.params[j]? = some t → args[j]? = some v → Value.okWide Tryz.prog W .any base t v := hval0
  have hW' := hW
  obtain ⟨p, q, hA0, hV, rfl, hfz, hnd⟩ := hW
  have hA : DataW.TrodAll enc Tryz.prog W 0 (fun _ => true) true Tryz.f5.params.toList args.toList ds p := hA0
  rw [Tryz.params5] at hA hval hsz
  obtain ⟨v0, vs0, d0, ds0, p0, q0, hargs, rfl, rfl, h0, r0⟩ := trodAll_cons hA
  obtain ⟨v1, vs1, d1, ds1, p1, q1, rfl, rfl, rfl, h1, r1⟩ := trodAll_cons r0
  obtain ⟨v2, vs2, d2, ds2, p2, q2, rfl, rfl, rfl, h2, r2⟩ := trodAll_cons r1
  obtain ⟨rfl, rfl, rfl⟩ := trodAll_nil r2
  obtain rfl : args = #[v0, v1, v2] := by cases args; simp_all
  obtain ⟨rfl, rfl⟩ := trodVars_none hV
  obtain ⟨a0, len0, cap0, rfl⟩ := okWide_slice Tryz.underlying25 (hval 0 25 v0 rfl rfl)
  have k0 := h0
  have lt0 : ∀ x ∈ p0, x.block < W.heap.size := by obtain ⟨m, hm⟩ := k0; exact DataW.trod_lt m _ _ _ hm
  have hw0 : ∀ y ∈ d0.weights Tryz.prog 25, y ≤ 140737488351232 := fun y hy => by have z := List.all_eq_true.1 hsz _ (DataW.weights_mem_each (j := 0) (t := 25) rfl rfl y hy); exact of_decide_eq_true z
  obtain ⟨m0, hm0⟩ := h0
  obtain ⟨_, e0, rd0⟩ := rd_of_trod (M := 140737488351232) 8 (.sl (.int .i64) 8) 25 m0 _ _ (by kernel_rfl) hm0 hw0
  obtain ⟨l0, rfl⟩ : ∃ l, e0 = Dv.sl l := by cases e0 <;> first | exact ⟨_, rfl⟩ | exact absurd rd0 (by simp [Rd])
  obtain ⟨a1, len1, cap1, rfl⟩ := okWide_slice Tryz.underlying49 (hval 1 49 v1 rfl rfl)
  have k1 := h1
  have lt1 : ∀ x ∈ p1, x.block < W.heap.size := by obtain ⟨m, hm⟩ := k1; exact DataW.trod_lt m _ _ _ hm
  have hw1 : ∀ y ∈ d1.weights Tryz.prog 49, y ≤ 140737488351232 := fun y hy => by have z := List.all_eq_true.1 hsz _ (DataW.weights_mem_each (j := 1) (t := 49) rfl rfl y hy); exact of_decide_eq_true z
  obtain ⟨m1, hm1⟩ := h1
  obtain ⟨_, e1, rd1⟩ := rd_of_trod (M := 140737488351232) 8 (.sl (.str) 16) 49 m1 _ _ (by kernel_rfl) hm1 hw1
  obtain ⟨l1, rfl⟩ : ∃ l, e1 = Dv.sl l := by cases e1 <;> first | exact ⟨_, rfl⟩ | exact absurd rd1 (by simp [Rd])
  obtain ⟨a2, rfl, rfl, rfl, w2⟩ := open_int Tryz.underlying3 (hval 2 3 v2 rfl rfl) h2
  have b2 := w2
  simp [Lit.wf, IntKind.min, IntKind.max, IntKind.signed, IntKind.bits] at b2
  refine (Does.belowR (coraclelaw13_CoreBytes_fn W (.slice a0 len0 cap0) (.slice a1 len1 cap1) (l0) (l1) (a2) (rd0) (rd1))).mono fun e W' ⟨he, bel⟩ => ?_
  subst he
  exact ⟨_, rfl, _, _, _, [], _, [], hW', trodAll_mk1 (shut_bool Tryz.underlying4 _), (trodAll_cons_mk (Below.trod laidOut (by kernel_rfl) (of_decide_eq_true (by kernel_rfl)) k0 bel lt0) (trodAll_cons_mk (Below.trod laidOut (by kernel_rfl) (of_decide_eq_true (by kernel_rfl)) k1 bel lt1) (trodAll_cons_mk (shut_int Tryz.underlying3 w2) trodAll_mk0))), rfl, bel.frame _, fun h => by cases h⟩
theorem over : Rows.coreBytesRow.holds Tryz.pinned (OpenSpec.ofChange Rows.coreBytesSpec) :=
  OpenClaim.holds_of_wide 5 Tryz.f5 rfl rfl rfl rfl rfl rfl rfl ⟨rfl, rfl, rfl, rfl, rfl⟩ rfl rfl rfl rfl rfl (by kernel_rfl) Tryz.func5 (by kernel_rfl)
    (of_decide_eq_true (by kernel_rfl)) (by unfold Func.isWrapper; first | (rw [if_pos (by decide +kernel)]; kernel_rfl) | (rw [if_neg (by decide +kernel)]; exact ⟨rfl, rfl⟩))
    (fun os started H enc _ => lifted os started H enc)
theorem proved : Rows.CoreBytesSaid := over
end Go.Proofs.YteeiccjglmehcaaGreat.coreBytes
namespace Go.Proofs.YteeiccjglmehcaaGreat
theorem coreBytes_holds : Rows.CoreBytesSaid := coreBytes.proved
#print axioms coreBytes_holds
end Go.Proofs.YteeiccjglmehcaaGreat
