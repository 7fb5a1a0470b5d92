/-
  strings.Builder over the calculus Sx. Printed by mk.py out of spec_kbl.py.
-/
import Derived.Test.YthlfbndanknnmaaDoorSxF
namespace Go.Proofs.YthlfbndanknnmaaDoor
open Go Go.Sx

structure BldZ where
  p : Option Addr
  v : Value
/-- A builder that holds 's', the first thing in a variable of type T (a builder, or a struct of one builder). -/
def bldC (b : Nat) (s : List UInt8) (T : TypeId) : Chunk := exi fun z : BldZ => [pur (z.p = none ∨ z.p = some ⟨b, 0, none⟩), blk b [.pointer z.p, z.v] T, buf z.v s T_uint8]
theorem lies_Builder : liesAt P P.depth T_strings_Builder (2 / P.cellsOf T_strings_Builder) 0 T_strings_Builder 1 = true := by kernel_rfl
theorem info_Builder : ∃ i, P.info? T_strings_Builder = some i ∧ i.size = 2 := by
  have h : (P.info? T_strings_Builder).map (·.size) = some 2 := by kernel_rfl
  obtain ⟨i, h1, h2⟩ := Option.map_eq_some_iff.1 h
  exact ⟨i, h1, h2⟩
theorem fnb_abi_NoEscape : P.funcs[F_abi_NoEscape]? = some Tryd.f70 := Tryd.func70
theorem cells_uint8 : P.cellsOf T_uint8 = 1 := by kernel_rfl
/-- A new builder. -/
theorem bld_new {b : Nat} {T : TypeId} {cs : List Chunk} {w : World} (h : Sat (blk b [.pointer none, .slice none 0 0] T :: cs) w) : Sat (bldC b [] T :: cs) w :=
  Sat.shut ⟨none, .slice none 0 0⟩ (Sat.pure (.inl rfl) (Take.sat (t1.c <| t0.c tall) (buf_nil (e := T_uint8) h)))

theorem strings_Builder_copyCheck_new_fn (b : Nat) (v : Value) : Does P F_strings_Builder_copyCheck [.pointer (some ⟨b, 0, none⟩)] [blk b [.pointer none, v] T_strings_Builder] fun u cs => u = .tuple #[] ∧ cs = [blk b [.pointer (some ⟨b, 0, none⟩), v] T_strings_Builder] := by
  refine Does.mk (N := 20) fn_strings_Builder_copyCheck rfl rfl rfl (fun F => ?_)
  simp only [List.cons_append, List.nil_append]
  obtain ⟨i, hi, hi2⟩ := info_Builder
  refine XC.seq ?_
  refine XC.reg ?_
  refine XL.mv rfl rfl ?_
  refine XL.ncP rfl rfl ?_
  refine XL.fa fo_strings_Builder_0 rfl rfl ?_
  refine XL.ld o_P_strings_Builder rfl (by rfl) rfl ?_
  refine XL.bin rfl rfl rfl (bEqPT u_P_strings_Builder) ?_
  refine XL.nil ?_
  refine XQ.thenN ?_
  refine XC.condT rfl ?_
  refine XC.reg ?_
  refine XL.mv rfl rfl ?_
  refine XL.mv rfl rfl ?_
  refine XL.cvTo u_P_strings_Builder u_unsafe_Pointer hi (by rw [hi2]; decide) rfl rfl rfl ?_
  refine XL.same fnb_abi_NoEscape (by kernel_rfl) (by kernel_rfl) (by kernel_rfl) (by kernel_rfl) rfl rfl ?_
  refine XL.cvFrom u_unsafe_Pointer u_P_strings_Builder hi rfl (by exact lies_Builder) rfl ?_
  refine XL.ncP rfl rfl ?_
  refine XL.fa fo_strings_Builder_0 rfl rfl ?_
  refine XL.st o_P_strings_Builder rfl rfl rfl ?_
  refine XL.nil ?_
  exact XQ.ret (.inr rfl) rfl (rN) [blk b [.pointer (some ⟨b, 0, none⟩), v] T_strings_Builder] (⟨rfl, rfl⟩) (fun w h => h)

theorem strings_Builder_copyCheck_used_fn (b : Nat) (v : Value) : Does P F_strings_Builder_copyCheck [.pointer (some ⟨b, 0, none⟩)] [blk b [.pointer (some ⟨b, 0, none⟩), v] T_strings_Builder] fun u cs => u = .tuple #[] ∧ cs = [blk b [.pointer (some ⟨b, 0, none⟩), v] T_strings_Builder] := by
  refine Does.mk (N := 20) fn_strings_Builder_copyCheck rfl rfl rfl (fun F => ?_)
  simp only [List.cons_append, List.nil_append]
  obtain ⟨i, hi, hi2⟩ := info_Builder
  refine XC.seq ?_
  refine XC.reg ?_
  refine XL.mv rfl rfl ?_
  refine XL.ncP rfl rfl ?_
  refine XL.fa fo_strings_Builder_0 rfl rfl ?_
  refine XL.ld o_P_strings_Builder rfl (by rfl) rfl ?_
  refine XL.bin rfl rfl rfl (bEqPF u_P_strings_Builder) ?_
  refine XL.nil ?_
  refine XQ.thenN ?_
  refine XC.condF rfl ?_
  refine XC.seq ?_
  refine XC.reg ?_
  refine XL.mv rfl rfl ?_
  refine XL.ncP rfl rfl ?_
  refine XL.fa fo_strings_Builder_0 rfl rfl ?_
  refine XL.ld o_P_strings_Builder rfl (by rfl) rfl ?_
  refine XL.mv rfl rfl ?_
  refine XL.bin rfl rfl rfl (bNeSame u_P_strings_Builder hi) ?_
  refine XL.nil ?_
  refine XQ.thenN ?_
  refine XC.condF rfl ?_
  refine XC.skip ?_
  exact XQ.ret (.inr rfl) rfl (rN) [blk b [.pointer (some ⟨b, 0, none⟩), v] T_strings_Builder] (⟨rfl, rfl⟩) (fun w h => h)

theorem strings_Builder_copyCheck_fn (b : Nat) (s : List UInt8) : Does P F_strings_Builder_copyCheck [.pointer (some ⟨b, 0, none⟩)] [bldC b s T_strings_Builder] fun u cs => u = .tuple #[] ∧ ∃ v, cs = [blk b [.pointer (some ⟨b, 0, none⟩), v] T_strings_Builder, buf v s T_uint8] := by
  refine Does.exi ?_
  rintro ⟨p, v⟩
  refine Does.pur ?_
  rintro (rfl | rfl)
  · refine (Does.frame (strings_Builder_copyCheck_new_fn b v) (rest := [buf v s T_uint8])).mono ?_
    rintro u c ⟨c', ⟨rfl, rfl⟩, rfl⟩
    exact ⟨rfl, v, rfl⟩
  · refine (Does.frame (strings_Builder_copyCheck_used_fn b v) (rest := [buf v s T_uint8])).mono ?_
    rintro u c ⟨c', ⟨rfl, rfl⟩, rfl⟩
    exact ⟨rfl, v, rfl⟩

theorem strings_Builder_WriteString_fn (b : Nat) (s t : List UInt8) (hroom : s.length + t.length ≤ 140737488355000) : Does P F_strings_Builder_WriteString [.pointer (some ⟨b, 0, none⟩), S t] [bldC b s T_strings_Builder] fun u cs => u = .tuple #[.int .i64 t.length, .nilIface] ∧ cs = [bldC b (s ++ t) T_strings_Builder] := by
  refine Does.mk (N := 19) fn_strings_Builder_WriteString rfl rfl rfl (fun F => ?_)
  simp only [List.cons_append, List.nil_append]
  refine XC.seq ?_
  refine XC.reg ?_
  refine XL.as rfl rfl ?_
  refine XL.as rfl rfl ?_
  refine XL.nil ?_
  refine XQ.thenN ?_
  refine XC.seq ?_
  refine XC.reg ?_
  refine XL.mv rfl rfl ?_
  refine XL.call hb_strings_Builder_copyCheck rfl rfl (strings_Builder_copyCheck_fn b s) (t0.c tn) ?_
  rintro _ _ ⟨rfl, v, rfl⟩
  simp only [List.cons_append, List.nil_append]
  refine XL.nil ?_
  refine XQ.thenN ?_
  refine XC.seq ?_
  refine XC.reg ?_
  refine XL.mv rfl rfl ?_
  refine XL.mv rfl rfl ?_
  refine XL.ncP rfl rfl ?_
  refine XL.fa fo_strings_Builder_1 rfl rfl ?_
  refine XL.ld o_L_uint8 rfl (by rfl) rfl ?_
  refine XL.mv rfl rfl ?_
  refine XL.appB e_L_uint8 u_string z_uint8 rfl rfl rfl (by omega) rfl (fun v14 _ => ?_)
  refine XL.ncP rfl rfl ?_
  refine XL.fa fo_strings_Builder_1 rfl rfl ?_
  refine XL.st o_L_uint8 rfl rfl rfl ?_
  refine XL.nil ?_
  refine XQ.thenN ?_
  refine XC.seq ?_
  refine XC.reg ?_
  refine XL.mv rfl rfl ?_
  refine XL.lenT u_string rfl rfl ?_
  refine XL.as rfl rfl ?_
  refine XL.as rfl rfl ?_
  refine XL.nil ?_
  refine XQ.thenN ?_
  refine XC.ret ?_
  exact XQ.ret (.inl rfl) rfl (rC (resT rfl) <| rC (resT rfl) <| rN) [bldC b (s ++ t) T_strings_Builder] (⟨rfl, rfl⟩) (fun w h => Sat.shut ⟨some ⟨b, 0, none⟩, v14⟩ (Sat.pure (.inr rfl) (Take.sat (t1.c <| t0.c <| tall) h)))

theorem strings_Builder_String_fn (b : Nat) (s : List UInt8) (hroom : s.length ≤ 9223372036854775807) : Does P F_strings_Builder_String [.pointer (some ⟨b, 0, none⟩)] [bldC b s T_strings_Builder] fun u cs => u = S s ∧ cs = [bldC b s T_strings_Builder] := by
  refine Does.mk (N := 14) fn_strings_Builder_String rfl rfl rfl (fun F => ?_)
  simp only [List.cons_append, List.nil_append]
  refine XC.opn t0 ?_
  rintro ⟨p, v⟩
  dsimp only [List.cons_append, List.nil_append]
  refine XC.fact t0 ?_
  intro hp
  refine XC.seq ?_
  refine XC.reg ?_
  refine XL.as rfl rfl ?_
  refine XL.nil ?_
  refine XQ.thenN ?_
  refine XC.seq ?_
  refine XC.keep (L' := [(0, .pointer (some ⟨b, 0, none⟩))]) ⟨rfl, trivial⟩ ?_
  refine XC.drw (.q 0 <| .q 1 <| .q 2 <| .q 3 <| .q 5 <| .q 6 <| .q 7 <| .q 8 <| .q 9 <| .e 4 <| .r 5 <| .r 6 <| .r 7 <| .r 8 <| .r 9 <| .e 10 <| .q 11 <| .done) mixed (by kernel_rfl) rfl ?_
  refine JP.qq rfl rfl rfl (XL.mv rfl rfl XL.qd) ?_
  refine JP.qq rfl rfl rfl (XL.ncP rfl rfl XL.qd) ?_
  refine JP.qq rfl rfl rfl (XL.fa fo_strings_Builder_1 rfl rfl XL.qd) ?_
  refine JP.qq rfl rfl rfl (XL.ld o_L_uint8 rfl (by rfl) rfl XL.qd) ?_
  refine JP.qq rfl rfl rfl (XL.mv rfl rfl XL.qd) ?_
  refine JP.qq rfl rfl rfl (XL.ncP rfl rfl XL.qd) ?_
  refine JP.qq rfl rfl rfl (XL.fa fo_strings_Builder_1 rfl rfl XL.qd) ?_
  refine JP.qq rfl rfl rfl (XL.ld o_L_uint8 rfl (by rfl) rfl XL.qd) ?_
  refine JP.qq rfl rfl rfl (XL.lenB e_L_uint8 rfl rfl XL.qd) ?_
  refine JP.ee rfl ?_
  refine XL.usd u_P_uint8 rfl rfl (fun p7 hp7 => ?_)
  refine XL.ed ?_
  refine JP.rr rfl rfl rfl (XL.mv rfl rfl XL.qd) ?_
  refine JP.rr rfl rfl rfl (XL.ncP rfl rfl XL.qd) ?_
  refine JP.rr rfl rfl rfl (XL.fa fo_strings_Builder_1 rfl rfl XL.qd) ?_
  refine JP.rr rfl rfl rfl (XL.ld o_L_uint8 rfl (by rfl) rfl XL.qd) ?_
  refine JP.rr rfl rfl rfl (XL.lenB e_L_uint8 rfl rfl XL.qd) ?_
  refine JP.ee rfl ?_
  refine XL.ustr u_P_uint8 cells_uint8 rfl rfl hp7 hroom rfl ?_
  refine XL.ed ?_
  refine JP.qq rfl rfl rfl (XL.as rfl rfl XL.qd) ?_
  refine JP.done ?_
  refine XQ.thenN ?_
  refine XC.ret ?_
  exact XQ.ret (.inl rfl) rfl (rC (resT rfl) <| rN) [bldC b s T_strings_Builder] (⟨rfl, rfl⟩) (fun w h => Sat.shut ⟨p, v⟩ (Sat.pure hp h))
end Go.Proofs.YthlfbndanknnmaaDoor
