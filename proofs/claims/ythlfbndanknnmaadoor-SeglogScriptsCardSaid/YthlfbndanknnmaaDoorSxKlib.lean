/-
  Contracts of the library out of the kit's shelf, as claims of the calculus Sx. Printed by mk.py out of spec_klib.py.
-/
import Derived.Test.YthlfbndanknnmaaDoorSxF
import Derived.Test.YthlfbndanknnmaaDoorShelf
namespace Go.Proofs.YthlfbndanknnmaaDoor
open Go Go.Sx

theorem repeatL_one (n : Nat) (c : UInt8) : Lib.repeatL [c] n = List.replicate n c := by
  induction n with
  | zero => rfl
  | succ n ih => rw [Lib.repeatL, ih, List.replicate_succ]; rfl
theorem strings_Repeat_fn (s : List UInt8) (c : Nat) (hc : c ≤ 9223372036854775807) (hlen : s.length * c ≤ 140737488355328) : Does P F_strings_Repeat [S s, .int .i64 (c : Int)] [] fun v cs => v = S (Lib.repeatL s c) ∧ cs = [] :=
  Does.of_below fun w => Tryd.strings_Repeat ⟨s.toArray⟩ c w hc (by rw [size_S]; exact hlen)
theorem strings_Trim_fn (s : List UInt8) (c : UInt8) (hc : c.toNat < 128) (hs : s.length ≤ 9223372036854775807) : Does P F_strings_Trim [S s, S [c]] [] fun v cs => v = S (Lib.trimB s c) ∧ cs = [] :=
  Does.of_below fun w => (Tryd.strings_Trim_one ⟨s.toArray⟩ c hc w (by rw [size_S]; exact hs)).mono fun e w' ⟨h1, h2⟩ => ⟨h1, by rcases h2 with rfl | rfl; exact RowKit.Below.refl _ _; exact (RowKit.Below.refl _ _).drew⟩
end Go.Proofs.YthlfbndanknnmaaDoor
