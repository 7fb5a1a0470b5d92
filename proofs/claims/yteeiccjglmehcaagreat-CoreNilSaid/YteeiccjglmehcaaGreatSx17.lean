/-
  The calculus Sx, part 17: 'append(s, x...)', x a slice that came in, of elements of one cell.
-/
import Derived.Test.YteeiccjglmehcaaGreatSx16
namespace Go.Sx
open Go
/-- These cells lie in the old memory at that slice. -/
def OldRow (w0 : World) (v : Value) (cs : List Value) : Prop := (cs = [] ∧ ∃ p cap, v = .slice p 0 cap) ∨ ∃ b o cap, v = .slice (some ⟨b, o, none⟩) cs.length cap ∧ ∀ j u, cs[j]? = some u → w0.cell? ⟨b, o + j, none⟩ = some u
section
variable {P : Program} {N : Nat} {Q : Exit → Act → World → Prop} {L : List (Nat × Value)} {cs cs' : List Chunk} {ops : Array Oper} {l : List Oper}
variable {d : Nat} {ty : TypeId} {pos : String} {af : Array Edge} {g : Option (Nat × Bool)}
theorem XL.appO {α : Type} {enc : α → List Value} {l1 : List α} {t t2 e e2 : TypeId} {by_ by2 : Nat} {zs : List Value} {v1 v2 : Value} {w0 : World} {x y : Operand} (gs : List α) (ht : elemI P t = some (e, 1, by_)) (ht2 : elemI P t2 = some (e2, 1, by2)) (hz : zeroC P e = some zs)
    (hzl : (Nat.beq zs.length 1 && Nat.ble 1 by_) = true) (hx : ev L x = some v1) (hy : ev L y = some v2) [ho : OutV cs v1 enc l1 e 1 cs'] [h0 : AtOld cs' w0] (hr : OldRow w0 v2 ((gs.map enc).flatten)) (he : ∀ x, (enc x).length = 1) (h1 : ∀ x, (enc x).all oneC = true)
    (hroom : (2 * (l1.length + gs.length) + 192) * by_ ≤ 281474976710656) (hc : chk ops L N d g = true) (k : ∀ v', OneV v' → XL P N ops Q l ((d, v') :: L) (sl v' enc (l1 ++ gs) e 1 :: cs')) :
    XL P N ops Q (⟨some d, .call ⟨.builtin .append, #[x, y], #[t, t2]⟩, ty, pos, af, g⟩ :: l) L cs :=
  XL.stepS rfl hc (fun a w hm hs => by
    simp only [Bool.and_eq_true] at hzl
    have hs1 := hs.perm ho.mem
    have hs2 := Sat.tail hs1
    have hfl : ((gs.map enc).flatten).length = gs.length := by have := flat_length (sz := 1) gs (fun x _ => he x); omega
    obtain ⟨v', w', q1, q2⟩ := run_append (P := P) (v2 := v2) (n2 := gs.length) (c2 := (gs.map enc).flatten) ht (.inl (elemI.run ht2).1) hz (Nat.eq_of_beq_eq_true hzl.1) (Nat.le_of_ble_eq_true hzl.2) hroom rfl rfl (fun x _ => he x)
      (by
        rw [List.all_eq_true]
        intro u hu
        obtain ⟨us, h3, h4⟩ := List.mem_flatten.1 hu
        obtain ⟨x, _, rfl⟩ := List.mem_map.1 h3
        exact List.all_eq_true.1 (h1 x) u h4)
      (fun w' hw' => by
        rcases hr with ⟨h2, p, cap, rfl⟩ | ⟨b, o, cap, rfl, _⟩
        · rw [h2] at hfl; simp [Builtin.lenOf, ← hfl]
        · simp [Builtin.lenOf, hfl])
      (fun w' hw' => by
        rcases hr with ⟨h2, p, cap, rfl⟩ | ⟨b, o, cap, rfl, hcell⟩
        · rw [h2] at hfl ⊢
          rw [← hfl]
          cases p <;> simp [Builtin.firstCells, loadCells, loadCellsFrom]
        · have := run_loadCellsFrom (P := P) (w := w') (b := b) (o := o) ((gs.map enc).flatten) 0 #[] (fun j u hj => by
            have h5 := h0.cell hs2 (hcell j u hj)
            rw [Nat.add_zero]
            unfold World.cell? at h5 ⊢
            rw [hw']; exact h5)
          simp only [Builtin.firstCells, loadCells]
          rw [hfl] at this
          rw [Nat.mul_one, this]; simp)
      ty hs1
    refine ⟨v', w', ?_, q2⟩
    simp only [execOp, resolve, Sem.run_bind, Sem.run_pure, Result.andThen_ok, invoke, builtin, List.map_toArray, List.map_cons, List.map_nil, hm.eval hx, hm.eval hy, q1]) k
end
end Go.Sx
