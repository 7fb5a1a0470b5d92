/-
  The calculus Sx, part 12: from a claim of the calculus to a claim of the kit: all that there was in memory is as it was.
-/
import Derived.Test.YthlfbndanknnmaaDoorSx11
import Derived.Below
namespace Go.Sx
open Go Go.RowKit

theorem old_refl (w : World) : Sat [old w] w :=
  SatD.one.2 ⟨fun b => b < w.heap.size, fun _ h => h, fun _ h => h, SameOut.refl w, fun _ _ => rfl⟩
theorem old_below {w w' : World} {r : List Chunk} (h : Sat (old w :: r) w') : Below w.heap.size w w' := by
  obtain ⟨D1, D2, h1, h2, h3, ⟨k1, k2, k3⟩, h5⟩ := h
  have hsz : w.heap.size ≤ w'.heap.size := by
    rcases Nat.lt_or_ge w'.heap.size w.heap.size with hlt | hge
    · exact absurd (h1 _ (k1 _ hlt)) (Nat.lt_irrefl _)
    · exact hge
  exact ⟨k2.os, k2.tape, k2.output, hsz, k3⟩
theorem Does.below {P : Program} {f : FuncId} {args : List Value} {v : Value} (h : Does P f args [] fun u cs => u = v ∧ cs = []) (w : World) :
    Calls P f args.toArray w fun e w' => e = .returned v ∧ Below w.heap.size w w' :=
  (h (old w) w (old_refl w)).mono fun _ _ ⟨u, c, h1, ⟨h2, h3⟩, h4⟩ => by subst h2; subst h3; exact ⟨h1, old_below h4⟩
/-- The same, where the call reads what was there. -/
theorem Does.belowR {P : Program} {f : FuncId} {args : List Value} {v : Value} {w : World} (h : Does P f args [old w] fun u cs => u = v ∧ cs = [old w]) :
    Calls P f args.toArray w fun e w' => e = .returned v ∧ Below w.heap.size w w' :=
  (h (star []) w (Sat.fold (xs := [old w]) (ys := []) (old_refl w))).mono fun _ _ ⟨u, c, h1, ⟨h2, h3⟩, h4⟩ => by subst h2; subst h3; exact ⟨h1, old_below h4⟩
end Go.Sx
