/-
  The calculus Sx, part 11: structs of whole numbers, texts and truths are compared.
-/
import Derived.Test.YteeiccjglmehcaaGreatSx10
import Derived.Laws.StructEq
import Derived.ChangeKeysEq
namespace Go.Sx
open Go

def fsOk (P : Program) : Nat → List Field → Option (List TypeDesc)
  | _, [] => some []
  | i, f :: fs => if f.name != "_" && P.plainKey f.type && f.offset == i then match P.underlying f.type, fsOk P (i + 1) fs with
      | some d, some ds => some (d :: ds)
      | _, _ => none
    else none
/-- A struct type whose values are compared field by field, each of one cell: the fields' types. -/
def eqFs (P : Program) (t : TypeId) : Option (List TypeDesc) :=
  match P.underlying t with
  | some (.struct fs) => if P.stoodInHeld t || P.eqGuardType P.depth t then none else fsOk P 0 fs.toList
  | _ => none

inductive EqR : List TypeDesc → List Value → List Value → Bool → Prop
  | nil : EqR [] [] [] true
  | int {k0 k : IntKind} {a c : Int} {ds xs ys b} : EqR ds xs ys b → EqR (.int k0 :: ds) (.int k a :: xs) (.int k c :: ys) (decide (a = c) && b)
  | str {a c : List UInt8} {ds xs ys b} : EqR ds xs ys b → EqR (.string :: ds) (S a :: xs) (S c :: ys) (decide (a = c) && b)
  | bool {a c : Bool} {ds xs ys b} : EqR ds xs ys b → EqR (.bool :: ds) (.bool a :: xs) (.bool c :: ys) (decide (a = c) && b)
class EqVs (ds : List TypeDesc) (xs ys : List Value) (b : outParam Bool) : Prop where
  eq : EqR ds xs ys b
instance : EqVs [] [] [] true := ⟨.nil⟩
instance {k0 k : IntKind} {a c : Int} {ds xs ys b} [h : EqVs ds xs ys b] : EqVs (.int k0 :: ds) (.int k a :: xs) (.int k c :: ys) (decide (a = c) && b) := ⟨.int h.eq⟩
instance {a c : List UInt8} {ds xs ys b} [h : EqVs ds xs ys b] : EqVs (.string :: ds) (S a :: xs) (S c :: ys) (decide (a = c) && b) := ⟨.str h.eq⟩
instance {a c : Bool} {ds xs ys b} [h : EqVs ds xs ys b] : EqVs (.bool :: ds) (.bool a :: xs) (.bool c :: ys) (decide (a = c) && b) := ⟨.bool h.eq⟩

variable {P : Program} {t : TypeId} {x y : Operand}

theorem run_eqFields (d : Nat) (w : World) : ∀ (fs : List Field) (ds : List TypeDesc) (i : Nat) (X Y xs ys : List Value) (b : Bool), fsOk P i fs = some ds → EqR ds xs ys b → X.drop i = xs → Y.drop i = ys →
    (Op.eqFields (d + 1) X.toArray Y.toArray fs).run P w = .ok b w
  | [], ds, i, X, Y, xs, ys, b, h, hr, hx, hy => by
    cases h
    cases hr
    simp [Op.eqFields]
  | f :: fs, ds, i, X, Y, xs, ys, b, h, hr, hx, hy => by
    rw [fsOk] at h
    split at h
    · rename_i hc
      simp only [Bool.and_eq_true, bne_iff_ne, ne_eq, beq_iff_eq] at hc
      obtain ⟨⟨h1, h2⟩, h3⟩ := hc
      split at h
      · rename_i d0 ds0 hu hf
        cases h
        have step : ∀ (a c : Value) (xs' ys' : List Value) (r b' : Bool), xs = a :: xs' → ys = c :: ys' → EqR ds0 xs' ys' b' → (Op.equalIn (d + 1) f.type a c).run P w = .ok r w → b = (r && b') → (Op.eqFields (d + 1) X.toArray Y.toArray (f :: fs)).run P w = .ok b w := by
          intro a c xs' ys' r b' e1 e2 hr' he hb
          subst e1; subst e2; subst hb
          have hxi : X.toArray[f.offset]? = some a := by
            have := congrArg (·[0]?) hx
            simp only [List.getElem?_drop, List.getElem?_cons_zero, Nat.add_zero] at this
            rw [h3]; simpa using this
          have hyi : Y.toArray[f.offset]? = some c := by
            have := congrArg (·[0]?) hy
            simp only [List.getElem?_drop, List.getElem?_cons_zero, Nat.add_zero] at this
            rw [h3]; simpa using this
          have ih := run_eqFields d w fs ds0 (i + 1) X Y xs' ys' b' hf hr' (by rw [← List.drop_drop, hx]; rfl) (by rw [← List.drop_drop, hy]; rfl)
          simp only [Op.eqFields, ne_eq, h1, not_false_eq_true, if_true, Sem.run_bind, run_part_plain w h2 hxi, run_part_plain w h2 hyi, Result.andThen_ok, he]
          cases r
          · simp
          · simpa using ih
        cases hr with
        | int h' => exact step _ _ _ _ _ _ rfl rfl h' (by rw [run_equalIn_int w d _ _ _ _ _ hu]; congr 1) rfl
        | str h' => exact step _ _ _ _ _ _ rfl rfl h' (by rw [run_equalIn_string w d _ _ _ hu, toList_S, toList_S]) (by congr 1; rw [Bool.eq_iff_iff]; simp)
        | bool h' => exact step _ _ _ _ _ _ rfl rfl h' (by rw [run_equalIn_bool' w d _ _ _ hu]) (by congr 1)
      · cases h
    · cases h

theorem run_eqStruct {ds : List TypeDesc} {xs ys : List Value} {b : Bool} (h : eqFs P t = some ds) (hr : EqR ds xs ys b) (w : World) : (Op.equalIn 10000 t (.agg xs.toArray) (.agg ys.toArray)).run P w = .ok b w ∧ P.eqGuardType P.depth t = false := by
  unfold eqFs at h
  split at h
  · rename_i fs hu
    split at h
    · cases h
    · rename_i hc
      simp only [Bool.or_eq_true, not_or, Bool.not_eq_true] at hc
      have hfs : P.fieldsOf t = fs := by simp [Program.fieldsOf, hu]
      rw [run_equalIn_struct w 9999 t _ _ (by rw [hfs]; exact hu) hc.1, hfs]
      exact ⟨run_eqFields 9998 w fs.toList ds 0 xs ys xs ys b h hr rfl rfl, hc.2⟩
  · cases h

theorem bEqSt {ds : List TypeDesc} {xs ys : List Value} {b : Bool} (h : eqFs P t = some ds) [hr : EqVs ds xs ys b] : BinR P .eql t x y (.agg xs.toArray) (.agg ys.toArray) (.bool b) := by
  intro w
  obtain ⟨h1, h2⟩ := run_eqStruct h hr.eq w
  rw [Sem.run_bind, run_eqGuard_agg w _ _ _ _ _ _ h2, Result.andThen_ok, run_eql_struct, h1]; rfl
theorem bNeSt {ds : List TypeDesc} {xs ys : List Value} {b : Bool} (h : eqFs P t = some ds) [hr : EqVs ds xs ys b] : BinR P .neq t x y (.agg xs.toArray) (.agg ys.toArray) (.bool (!b)) := by
  intro w
  obtain ⟨h1, h2⟩ := run_eqStruct h hr.eq w
  rw [Sem.run_bind, run_eqGuard_agg w _ _ _ _ _ _ h2, Result.andThen_ok, run_neq_struct, h1]; rfl
end Go.Sx
