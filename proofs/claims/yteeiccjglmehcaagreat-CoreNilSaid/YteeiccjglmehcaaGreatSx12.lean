/-
  The calculus Sx, part 12: from a claim of the calculus to a claim of the kit: all that there was in memory is as it was.
-/
import Derived.Test.YteeiccjglmehcaaGreatSx11
import Derived.Below
import Derived.Laws.BytesArg
namespace Go.Sx
open Go Go.RowKit

theorem old_refl (w : World) : Sat [old w] w :=
  SatD.one.2 ⟨fun b => b < w.heap.size, fun _ h => h, fun _ h => h, SameOut.refl w, fun _ _ => rfl⟩
theorem old_below {w w' : World} {r : List Chunk} (h : Sat (old w :: r) w') : Below w.heap.size w w' := by
  obtain ⟨D1, D2, h1, h2, h3, ⟨k1, k2, k3⟩, h5⟩ := h
  have hsz : w.heap.size ≤ w'.heap.size := by
    rcases Nat.lt_or_ge w'.heap.size w.heap.size with hlt | hge
    · exact absurd (h1 _ (k1 _ hlt)) (Nat.lt_irrefl _)
    · exact hge
  exact ⟨k2.os, k2.tape, k2.output, hsz, k3⟩
theorem Does.below {P : Program} {f : FuncId} {args : List Value} {v : Value} (h : Does P f args [] fun u cs => u = v ∧ cs = []) (w : World) :
    Calls P f args.toArray w fun e w' => e = .returned v ∧ Below w.heap.size w w' :=
  (h (old w) w (old_refl w)).mono fun _ _ ⟨u, c, h1, ⟨h2, h3⟩, h4⟩ => by subst h2; subst h3; exact ⟨h1, old_below h4⟩
/-- The same, where the call reads what was there. -/
theorem Does.belowR {P : Program} {f : FuncId} {args : List Value} {v : Value} {w : World} (h : Does P f args [old w] fun u cs => u = v ∧ cs = [old w]) :
    Calls P f args.toArray w fun e w' => e = .returned v ∧ Below w.heap.size w w' :=
  (h (star []) w (Sat.fold (xs := [old w]) (ys := []) (old_refl w))).mono fun _ _ ⟨u, c, h1, ⟨h2, h3⟩, h4⟩ => by subst h2; subst h3; exact ⟨h1, old_below h4⟩

/-! ### Ways that meet -/
def JoinQ {ι : Type} (N : Nat) (Lx : ι → List (Nat × Value)) (cx : ι → List Chunk) (φ : ι → Prop) : Act → World → Prop :=
  fun a w => ∃ z, φ z ∧ Mat N (Lx z) a ∧ Sat (cx z) w
theorem XC.seqJ {P : Program} {N : Nat} {Q : Exit → Act → World → Prop} {L : List (Nat × Value)} {cs : List Chunk} {x y : Code} {ι : Type} (Lx : ι → List (Nat × Value)) (cx : ι → List Chunk) (φ : ι → Prop)
    (h1 : XC P N (Exit.then (JoinQ N Lx cx φ) Q) x L cs) (h2 : ∀ z, φ z → XC P N Q y (Lx z) (cx z)) : XC P N Q (.seq x y) L cs := by
  intro a w hm hs
  refine wp_seq (wp_mono (h1 a w hm hs) ?_)
  intro e a w hq
  cases e with
  | normal => obtain ⟨z, h3, h4, h5⟩ := hq; exact h2 z h3 a w h4 h5
  | _ => exact hq
theorem XQ.join {N : Nat} {Q : Exit → Act → World → Prop} {L : List (Nat × Value)} {cs : List Chunk} {ι : Type} {Lx : ι → List (Nat × Value)} {cx : ι → List Chunk} {φ : ι → Prop} (z : ι) (h1 : φ z) (hL : Sub (Lx z) L) (hc : ∀ w, Sat cs w → Sat (cx z) w) :
    XQ N (Exit.then (JoinQ N Lx cx φ) Q) .normal L cs := fun _ w hm hs => ⟨z, h1, hm.sub hL, hc w hs⟩

/-! ### Bytes and texts -/
abbrev encB (c : UInt8) : List Value := [.int .u8 (c.toNat : Int)]
theorem encB_one (c : UInt8) : (encB c).all oneC = true := rfl
theorem encB_flat (s : List UInt8) : (s.map encB).flatten = bytesV s := by
  induction s with
  | nil => rfl
  | cons c s ih => simp only [List.map_cons, List.flatten_cons, ih]; rfl
section
variable {P : Program} {N : Nat} {Q : Exit → Act → World → Prop} {L : List (Nat × Value)} {cs : List Chunk} {ops : Array Oper} {l : List Oper}
variable {d : Nat} {ty : TypeId} {pos : String} {af : Array Edge} {g : Option (Nat × Bool)}
/-- 'string(b)' of bytes that a slice owns. -/
theorem XL.cvV {src dst e e' : TypeId} {x : Operand} {v : Value} {s : List UInt8} (hs : P.underlying src = some (.slice e)) (he : P.underlying e = some (.int .u8)) (hd : P.underlying dst = some .string)
    (hx : ev L x = some v) [hv : AtV cs v encB s e' 1] (hc : chk ops L N d g = true) (k : XL P N ops Q l ((d, S s) :: L) cs) : XL P N ops Q (⟨some d, .convert src dst x, ty, pos, af, g⟩ :: l) L cs :=
  XL.stepV rfl hc (fun a w hm hs' => ⟨w, by
    obtain ⟨r, hr⟩ := hv.mem
    obtain ⟨h1, h2⟩ := sl_get (hs'.perm hr)
    rcases h2 with ⟨rfl, rfl⟩ | ⟨b, cap, sp, rfl, _, _, _, hh⟩
    · simp only [execOp, hm.eval hx]
      rw [Sem.run_bind, run_convert_bytes_nil w src e hs he 0 0 dst hd]; rfl
    · have hby : Lib.Bytes w b 0 ⟨s.toArray⟩ := fun i hi => by
        rw [size_S] at hi
        rw [cell_at hh, encB_flat]
        simp only [List.getElem?_toArray]
        rw [List.getElem?_append_left (by simpa [bytesV] using hi)]
        simp [bytesV, List.getElem?_eq_getElem hi]
        rfl
      have h := Lib.run_convert_whole (P := P) w src e dst hs he hd b 0 ⟨s.toArray⟩ hby cap
      rw [size_S] at h
      simp only [execOp, hm.eval hx]
      rw [Sem.run_bind, h]; rfl, hs'⟩) k
end
end Go.Sx
