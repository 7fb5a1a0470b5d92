/-
  The calculus Sx, part 16: a struct of whole numbers, and of structs of such, is equal to itself.
-/
import Derived.Test.YteeiccjglmehcaaGreatSx15
namespace Go.Sx
open Go
section
variable {P : Program} {t : TypeId} {x y : Operand}
def isIntD : TypeDesc → Bool | .int _ => true | _ => false
def intFs (P : Program) (n : Nat) (f : Field) : Bool := f.name != "_" && (match P.underlying f.type with
  | some (.int _) => P.plainKey f.type && Nat.blt f.offset n
  | some (.struct _) => match eqFs P f.type, aggN P f.type with
    | some ds, some k => Nat.beq k ds.length && ds.all isIntD && Nat.ble (f.offset + k) n
    | _, _ => false
  | _ => false)
def intSt (P : Program) (t : TypeId) (n : Nat) : Bool := match P.underlying t with
  | some (.struct fs) => !P.stoodInHeld t && !P.eqGuardType P.depth t && fs.toList.all (intFs P n)
  | _ => false
theorem eqR_refl : ∀ (ds : List TypeDesc) (l : List Int), ds.all isIntD = true → l.length = ds.length → EqR ds (l.map fun n => .int .i64 n) (l.map fun n => .int .i64 n) true
  | [], [], _, _ => .nil
  | .int k :: ds, n :: l, h, hl => by
    have := EqR.int (k0 := k) (k := .i64) (a := n) (c := n) (eqR_refl ds l (by simpa [isIntD] using h) (by simpa using hl))
    simpa using this
  | [], _ :: _, _, h => by simp at h
  | _ :: _, [], _, h => by simp at h
theorem run_eqInts (d : Nat) (w : World) (l : List Int) : ∀ (fs : List Field), fs.all (intFs P l.length) = true →
    (Op.eqFields (d + 2) (l.map fun n => Value.int .i64 n).toArray (l.map fun n => Value.int .i64 n).toArray fs).run P w = .ok true w
  | [], _ => by simp [Op.eqFields]
  | f :: fs, h => by
    simp only [List.all_cons, Bool.and_eq_true] at h
    obtain ⟨h1, h2⟩ := h
    have ih := run_eqInts d w l fs h2
    unfold intFs at h1
    simp only [Bool.and_eq_true, bne_iff_ne, ne_eq] at h1
    obtain ⟨hn, h1⟩ := h1
    have step : ∀ v, (part f.type (l.map fun n => Value.int .i64 n).toArray f.offset).run P w = .ok v w → (Op.equalIn (d + 2) f.type v v).run P w = .ok true w →
        (Op.eqFields (d + 2) (l.map fun n => Value.int .i64 n).toArray (l.map fun n => Value.int .i64 n).toArray (f :: fs)).run P w = .ok true w := by
      intro v hp he
      simp only [Op.eqFields, ne_eq, hn, not_false_eq_true, if_true, Sem.run_bind, hp, Result.andThen_ok, he]
      simpa using ih
    split at h1
    · rename_i k hu
      simp only [Bool.and_eq_true] at h1
      have hlt : f.offset < l.length := by simpa using h1.2
      refine step (.int .i64 l[f.offset]) (run_part_plain w h1.1 (by simp [hlt])) ?_
      rw [run_equalIn_int w (d + 1) _ _ _ _ _ hu]; simp
    · rename_i fs' hu
      split at h1
      · rename_i ds k he ha
        simp only [Bool.and_eq_true, Nat.ble_eq] at h1
        obtain ⟨⟨h3, h4⟩, h5⟩ := h1
        have h3 := Nat.eq_of_beq_eq_true h3
        have hpart : (part f.type (l.map fun n => Value.int .i64 n).toArray f.offset).run P w = .ok (.agg (((l.drop f.offset).take k).map fun n => Value.int .i64 n).toArray) w := by
          simp only [part, Sem.run_bind, aggN.agg ha, aggN.size ha, Result.andThen_ok, if_true, Sem.run_pure]
          congr 2
          simp [List.extract_toArray, List.map_take, List.map_drop, List.extract_eq_take_drop]
        refine step _ hpart ?_
        have hr := eqR_refl ds ((l.drop f.offset).take k) h4 (by simp; omega)
        have hst : P.stoodInHeld f.type = false ∧ fsOk P 0 fs'.toList = some ds := by
          have h0 := he
          simp only [eqFs, hu] at h0
          by_cases hc : (P.stoodInHeld f.type || P.eqGuardType P.depth f.type) = true
          · rw [if_pos hc] at h0; cases h0
          · rw [if_neg hc] at h0
            simp only [Bool.or_eq_true, not_or, Bool.not_eq_true] at hc
            exact ⟨hc.1, h0⟩
        have hfs : P.fieldsOf f.type = fs' := by simp [Program.fieldsOf, hu]
        rw [run_equalIn_struct w (d + 1) f.type _ _ (by rw [hfs]; exact hu) hst.1, hfs]
        exact run_eqFields d w fs'.toList ds 0 _ _ _ _ true hst.2 hr rfl rfl
      · cases h1
    · cases h1
theorem bEqInts (l : List Int) {xs : List Value} (hx : xs = l.map fun n => .int .i64 n) (h : intSt P t l.length = true) : BinR P .eql t x y (.agg xs.toArray) (.agg xs.toArray) (.bool true) := by
  intro w
  subst hx
  unfold intSt at h
  split at h
  · rename_i fs hu
    simp only [Bool.and_eq_true, Bool.not_eq_true'] at h
    obtain ⟨⟨h1, h2⟩, h3⟩ := h
    have hfs : P.fieldsOf t = fs := by simp [Program.fieldsOf, hu]
    rw [Sem.run_bind, run_eqGuard_agg w _ _ _ _ _ _ h2, Result.andThen_ok, run_eql_struct, run_equalIn_struct w 9999 t _ _ (by rw [hfs]; exact hu) h1, hfs, run_eqInts 9997 w l fs.toList h3]; rfl
  · cases h
end
end Go.Sx
