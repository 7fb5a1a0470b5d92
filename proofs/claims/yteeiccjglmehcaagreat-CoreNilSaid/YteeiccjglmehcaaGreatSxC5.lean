/-
  Package dir: a tree of one leaf: library parts. Printed by mk.py out of spec_core5.py.
-/
import Derived.Test.YteeiccjglmehcaaGreatSxC4
namespace Go.Proofs.YteeiccjglmehcaaGreat
open Go Go.Sx

section
variable {P : Program} {t e : TypeId} {x y : Operand}
theorem bLssS {a b : List UInt8} : BinR P .lss t x y (S a) (S b) (.bool (Op.bytesLess a b)) := by
  intro w
  simp [eqGuard, binOp, Op.stringOp]
theorem bNeSlN (ht : P.underlying t = some (.slice e)) : BinR P .neq t x y nilS nilS (.bool false) :=
  bNeOf (vx := nilS) (vy := nilS) (b := false) (fun w => by simp only [binOp, Sem.run_bind, equal_of (eqSlT ht)]; rfl) (fun w => rfl)
end
theorem bytesLess_irrefl : ∀ l : List UInt8, Op.bytesLess l l = false
  | [] => rfl
  | a :: l => by simp [Op.bytesLess, bytesLess_irrefl l]
@[reducible] def encS (s : List UInt8) : List Value := [S s]
@[reducible] def encE (e : List UInt8 × Int × Int) : List Value := [S e.1, I e.2.1, I e.2.2]

theorem cmp_isNaN_string_fn (x : List UInt8) : Does P F_cmp_isNaN_string [S x] [] fun u cs => u = B false ∧ cs = [] := by
  refine Does.mk (N := 6) fn_cmp_isNaN_string rfl rfl rfl (fun F => ?_)
  simp only [List.cons_append, List.nil_append]
  refine XC.seq ?_
  refine XC.reg ?_
  refine XL.as rfl rfl ?_
  refine XL.nil ?_
  refine XQ.thenN ?_
  refine XC.seq ?_
  refine XC.reg ?_
  refine XL.mv rfl rfl ?_
  refine XL.mv rfl rfl ?_
  refine XL.bin rfl rfl rfl (bNeS) ?_
  refine XL.as rfl rfl ?_
  refine XL.nil ?_
  refine XQ.thenN ?_
  refine XC.ret ?_
  exact XQ.ret (.inl rfl) rfl (rC (resT rfl) <| rN) [] (⟨congrArg Value.bool (by simp), rfl⟩) (fun w h => h)

theorem cmp_isNaN_int_fn (x : Int) : Does P F_cmp_isNaN_int [I x] [] fun u cs => u = B false ∧ cs = [] := by
  refine Does.mk (N := 6) fn_cmp_isNaN_int rfl rfl rfl (fun F => ?_)
  simp only [List.cons_append, List.nil_append]
  refine XC.seq ?_
  refine XC.reg ?_
  refine XL.as rfl rfl ?_
  refine XL.nil ?_
  refine XQ.thenN ?_
  refine XC.seq ?_
  refine XC.reg ?_
  refine XL.mv rfl rfl ?_
  refine XL.mv rfl rfl ?_
  refine XL.bin rfl rfl rfl (bNeI) ?_
  refine XL.as rfl rfl ?_
  refine XL.nil ?_
  refine XQ.thenN ?_
  refine XC.ret ?_
  exact XQ.ret (.inl rfl) rfl (rC (resT rfl) <| rN) [] (⟨congrArg Value.bool (by simp), rfl⟩) (fun w h => h)

theorem slices_isNaN_string_fn (x : List UInt8) : Does P F_slices_isNaN_string [S x] [] fun u cs => u = B false ∧ cs = [] := by
  refine Does.mk (N := 6) fn_slices_isNaN_string rfl rfl rfl (fun F => ?_)
  simp only [List.cons_append, List.nil_append]
  refine XC.seq ?_
  refine XC.reg ?_
  refine XL.as rfl rfl ?_
  refine XL.nil ?_
  refine XQ.thenN ?_
  refine XC.seq ?_
  refine XC.reg ?_
  refine XL.mv rfl rfl ?_
  refine XL.mv rfl rfl ?_
  refine XL.bin rfl rfl rfl (bNeS) ?_
  refine XL.as rfl rfl ?_
  refine XL.nil ?_
  refine XQ.thenN ?_
  refine XC.ret ?_
  exact XQ.ret (.inl rfl) rfl (rC (resT rfl) <| rN) [] (⟨congrArg Value.bool (by simp), rfl⟩) (fun w h => h)

theorem slices_isNaN_int_fn (x : Int) : Does P F_slices_isNaN_int [I x] [] fun u cs => u = B false ∧ cs = [] := by
  refine Does.mk (N := 6) fn_slices_isNaN_int rfl rfl rfl (fun F => ?_)
  simp only [List.cons_append, List.nil_append]
  refine XC.seq ?_
  refine XC.reg ?_
  refine XL.as rfl rfl ?_
  refine XL.nil ?_
  refine XQ.thenN ?_
  refine XC.seq ?_
  refine XC.reg ?_
  refine XL.mv rfl rfl ?_
  refine XL.mv rfl rfl ?_
  refine XL.bin rfl rfl rfl (bNeI) ?_
  refine XL.as rfl rfl ?_
  refine XL.nil ?_
  refine XQ.thenN ?_
  refine XC.ret ?_
  exact XQ.ret (.inl rfl) rfl (rC (resT rfl) <| rN) [] (⟨congrArg Value.bool (by simp), rfl⟩) (fun w h => h)

theorem cmp_Less_string_fn (x y : List UInt8) : Does P F_cmp_Less_string [S x, S y] [] fun u cs => u = B (Op.bytesLess x y) ∧ cs = [] := by
  refine Does.mk (N := 17) fn_cmp_Less_string rfl rfl rfl (fun F => ?_)
  simp only [List.cons_append, List.nil_append]
  refine XC.seq ?_
  refine XC.reg ?_
  refine XL.as rfl rfl ?_
  refine XL.nil ?_
  refine XQ.thenN ?_
  refine XC.seq ?_
  refine XC.reg ?_
  refine XL.mv rfl rfl ?_
  refine XL.call hb_cmp_isNaN_string rfl rfl (cmp_isNaN_string_fn _) (tn) ?_
  rintro _ _ ⟨rfl, rfl⟩
  simp only [List.cons_append, List.nil_append]
  refine XL.mv rfl rfl ?_
  refine XL.re 7 (u := .bool false) rfl (rfl) ?_
  refine XL.no rfl rfl ?_
  refine XL.no rfl rfl ?_
  refine XL.no rfl rfl ?_
  refine XL.pkF rfl rfl rfl ?_
  refine XL.mv rfl rfl ?_
  refine XL.mv rfl rfl ?_
  refine XL.mv rfl rfl ?_
  refine XL.bin rfl rfl rfl (bLssS) ?_
  refine XL.pkF rfl rfl rfl ?_
  refine XL.as rfl rfl ?_
  refine XL.nil ?_
  refine XQ.thenN ?_
  refine XC.ret ?_
  exact XQ.ret (.inl rfl) rfl (rC (resT rfl) <| rN) [] (⟨rfl, rfl⟩) (fun w h => h)

theorem cmp_Less_int_fn (x y : Int) : Does P F_cmp_Less_int [I x, I y] [] fun u cs => u = B (decide (x < y)) ∧ cs = [] := by
  refine Does.mk (N := 17) fn_cmp_Less_int rfl rfl rfl (fun F => ?_)
  simp only [List.cons_append, List.nil_append]
  refine XC.seq ?_
  refine XC.reg ?_
  refine XL.as rfl rfl ?_
  refine XL.nil ?_
  refine XQ.thenN ?_
  refine XC.seq ?_
  refine XC.reg ?_
  refine XL.mv rfl rfl ?_
  refine XL.call hb_cmp_isNaN_int rfl rfl (cmp_isNaN_int_fn _) (tn) ?_
  rintro _ _ ⟨rfl, rfl⟩
  simp only [List.cons_append, List.nil_append]
  refine XL.mv rfl rfl ?_
  refine XL.re 7 (u := .bool false) rfl (rfl) ?_
  refine XL.no rfl rfl ?_
  refine XL.no rfl rfl ?_
  refine XL.no rfl rfl ?_
  refine XL.pkF rfl rfl rfl ?_
  refine XL.mv rfl rfl ?_
  refine XL.mv rfl rfl ?_
  refine XL.mv rfl rfl ?_
  refine XL.bin rfl rfl rfl (bLss) ?_
  refine XL.pkF rfl rfl rfl ?_
  refine XL.as rfl rfl ?_
  refine XL.nil ?_
  refine XQ.thenN ?_
  refine XC.ret ?_
  exact XQ.ret (.inl rfl) rfl (rC (resT rfl) <| rN) [] (⟨rfl, rfl⟩) (fun w h => h)

theorem slices_BinarySearch_L_string_string_none_fn (v : Value) (x : List UInt8) : Does P F_slices_BinarySearch_L_string_string [v, S x] [sl v encS [] T_string 1] fun u cs => u = .tuple #[I 0, B false] ∧ cs = [sl v encS [] T_string 1] := by
  refine Does.mk (N := 54) fn_slices_BinarySearch_L_string_string rfl rfl rfl (fun F => ?_)
  simp only [List.cons_append, List.nil_append]
  refine XC.seq ?_
  refine XC.reg ?_
  refine XL.as rfl rfl ?_
  refine XL.as rfl rfl ?_
  refine XL.nil ?_
  refine XQ.thenN ?_
  refine XC.seq ?_
  refine XC.reg ?_
  refine XL.mv rfl rfl ?_
  refine XL.lenS e_L_string rfl rfl ?_
  refine XL.as rfl rfl ?_
  refine XL.nil ?_
  refine XQ.thenN ?_
  refine XC.seq ?_
  refine XC.reg ?_
  refine XL.mv rfl rfl ?_
  refine XL.as rfl rfl ?_
  refine XL.as rfl rfl ?_
  refine XL.nil ?_
  refine XQ.thenN ?_
  refine XC.seq ?_
  refine XC.block ?_
  refine XC.loop (ι := Bool) (fun z => [(0, v), (1, S x), (6, I 0), (7, I 0), (8, I (if z then 0 else 0))]) (fun z => [sl v encS [] T_string 1, F]) (fun z => True) (fun z => if z then 0 else 1) false trivial ⟨rfl, rfl, rfl, rfl, rfl, trivial⟩ (prm (by repeat constructor)) (fun z hz => ?_)
  refine XC.seq ?_
  refine XC.seq ?_
  refine XC.reg ?_
  refine XL.mv rfl rfl ?_
  refine XL.mv rfl rfl ?_
  refine XL.bin rfl rfl rfl (bLss) ?_
  refine XL.nil ?_
  refine XQ.thenN ?_
  refine XC.condF' rfl (by cases z <;> rfl) ?_
  refine XC.exit ?_
  refine XQ.thenE ?_
  refine XQ.thenE ?_
  refine XQ.blkE ?_
  refine XQ.thenN ?_
  refine XC.seq ?_
  refine XC.reg ?_
  refine XL.mv rfl rfl ?_
  refine XL.mv rfl rfl ?_
  refine XL.mv rfl rfl ?_
  refine XL.bin rfl rfl rfl (bLss) ?_
  refine XL.mv rfl rfl ?_
  refine XL.re 35 (u := .bool false) rfl (rfl) ?_
  refine XL.no rfl rfl ?_
  refine XL.no rfl rfl ?_
  refine XL.no rfl rfl ?_
  refine XL.no rfl rfl ?_
  refine XL.no rfl rfl ?_
  refine XL.no rfl rfl ?_
  refine XL.no rfl rfl ?_
  refine XL.no rfl rfl ?_
  refine XL.no rfl rfl ?_
  refine XL.no rfl rfl ?_
  refine XL.no rfl rfl ?_
  refine XL.no rfl rfl ?_
  refine XL.no rfl rfl ?_
  refine XL.no rfl rfl ?_
  refine XL.no rfl rfl ?_
  refine XL.no rfl rfl ?_
  refine XL.no rfl rfl ?_
  refine XL.pkF rfl rfl rfl ?_
  refine XL.as rfl rfl ?_
  refine XL.as rfl rfl ?_
  refine XL.nil ?_
  refine XQ.thenN ?_
  refine XC.ret ?_
  exact XQ.ret (.inl rfl) rfl (rC (resT rfl) <| rC (resT rfl) <| rN) [sl v encS [] T_string 1] (⟨rfl, rfl⟩) ((prm (by repeat constructor)))

theorem slices_BinarySearch_L_string_string_same_fn (v : Value) (x : List UInt8) : Does P F_slices_BinarySearch_L_string_string [v, S x] [sl v encS [x] T_string 1] fun u cs => u = .tuple #[I 0, B true] ∧ cs = [sl v encS [x] T_string 1] := by
  refine Does.mk (N := 54) fn_slices_BinarySearch_L_string_string rfl rfl rfl (fun F => ?_)
  simp only [List.cons_append, List.nil_append]
  refine XC.seq ?_
  refine XC.reg ?_
  refine XL.as rfl rfl ?_
  refine XL.as rfl rfl ?_
  refine XL.nil ?_
  refine XQ.thenN ?_
  refine XC.seq ?_
  refine XC.reg ?_
  refine XL.mv rfl rfl ?_
  refine XL.lenS e_L_string rfl rfl ?_
  refine XL.as rfl rfl ?_
  refine XL.nil ?_
  refine XQ.thenN ?_
  refine XC.seq ?_
  refine XC.reg ?_
  refine XL.mv rfl rfl ?_
  refine XL.as rfl rfl ?_
  refine XL.as rfl rfl ?_
  refine XL.nil ?_
  refine XQ.thenN ?_
  refine XC.seq ?_
  refine XC.block ?_
  refine XC.loop (ι := Bool) (fun z => [(0, v), (1, S x), (6, I 1), (7, I 0), (8, I (if z then 0 else 1))]) (fun z => [sl v encS [x] T_string 1, F]) (fun z => True) (fun z => if z then 0 else 1) false trivial ⟨rfl, rfl, rfl, rfl, rfl, trivial⟩ (prm (by repeat constructor)) (fun z hz => ?_)
  refine XC.seq ?_
  refine XC.seq ?_
  refine XC.reg ?_
  refine XL.mv rfl rfl ?_
  refine XL.mv rfl rfl ?_
  refine XL.bin rfl rfl rfl (bLss) ?_
  refine XL.nil ?_
  refine XQ.thenN ?_
  refine XC.cond rfl (fun hc0 => ?_) (fun hc0 => ?_)
  · obtain rfl : z = false := by cases z <;> simp_all
    refine XC.skip ?_
    refine XQ.thenN ?_
    refine XC.block ?_
    refine XC.seq ?_
    refine XC.reg ?_
    refine XL.mv rfl rfl ?_
    refine XL.mv rfl rfl ?_
    refine XL.bin rfl rfl rfl (bAdd (by omega)) ?_
    first | refine XL.cvI u_int u_uint rfl (IntWalk.u64_in _ (by omega)) rfl ?_ | refine XL.cvI u_int u_uint rfl rfl rfl ?_
    refine XL.bin rfl rfl rfl (bShr (by omega)) ?_
    first | refine XL.cvI u_uint u_int rfl (IntWalk.i64_in _ (by omega)) rfl ?_ | refine XL.cvI u_uint u_int rfl rfl rfl ?_
    refine XL.as rfl rfl ?_
    refine XL.nil ?_
    refine XQ.thenN ?_
    refine XC.seq ?_
    refine XC.reg ?_
    refine XL.mv rfl rfl ?_
    refine XL.mv rfl rfl ?_
    refine XL.ixS 0 e_L_string rfl rfl rfl (by simp) rfl (fun b24 _ => ?_)
    refine XL.ldS1 (u := S x) o_string rfl (by simp) rfl rfl ?_
    refine XL.mv rfl rfl ?_
    refine XL.call hb_cmp_Less_string rfl rfl (cmp_Less_string_fn _ _) (tn) ?_
    rintro _ _ ⟨rfl, rfl⟩
    simp only [List.cons_append, List.nil_append]
    refine XL.nil ?_
    refine XQ.thenN ?_
    refine XC.condF' rfl (by simp [bytesLess_irrefl]) ?_
    refine XC.reg ?_
    refine XL.mv rfl rfl ?_
    refine XL.as rfl rfl ?_
    refine XL.nil ?_
    refine XQ.blkN ?_
    refine XQ.again true trivial (by decide) ⟨rfl, rfl, rfl, rfl, rfl, trivial⟩ (prm (by repeat constructor))
  · obtain rfl : z = true := by cases z <;> simp_all
    refine XC.exit ?_
    refine XQ.thenE ?_
    refine XQ.thenE ?_
    refine XQ.blkE ?_
    refine XQ.thenN ?_
    refine XC.seq ?_
    refine XC.reg ?_
    refine XL.mv rfl rfl ?_
    refine XL.mv rfl rfl ?_
    refine XL.mv rfl rfl ?_
    refine XL.bin rfl rfl rfl (bLss) ?_
    refine XL.mv rfl rfl ?_
    refine XL.re 35 (u := .bool true) rfl (rfl) ?_
    refine XL.mv rfl rfl ?_
    refine XL.mv rfl rfl ?_
    refine XL.ixS 0 e_L_string rfl rfl rfl (by simp) rfl (fun b38 _ => ?_)
    refine XL.ldS1 (u := S x) o_string rfl (by simp) rfl rfl ?_
    refine XL.mv rfl rfl ?_
    refine XL.bin rfl rfl rfl (bEqS) ?_
    refine XL.mv rfl rfl ?_
    refine XL.re 42 (u := .bool true) rfl (congrArg Value.bool (decide_eq_true rfl)) ?_
    refine XL.no rfl rfl ?_
    refine XL.no rfl rfl ?_
    refine XL.no rfl rfl ?_
    refine XL.no rfl rfl ?_
    refine XL.no rfl rfl ?_
    refine XL.no rfl rfl ?_
    refine XL.no rfl rfl ?_
    refine XL.no rfl rfl ?_
    refine XL.no rfl rfl ?_
    refine XL.pkT rfl rfl rfl ?_
    refine XL.pkT rfl rfl rfl ?_
    refine XL.as rfl rfl ?_
    refine XL.as rfl rfl ?_
    refine XL.nil ?_
    refine XQ.thenN ?_
    refine XC.ret ?_
    exact XQ.ret (.inl rfl) rfl (rC (resT rfl) <| rC (resT rfl) <| rN) [sl v encS [x] T_string 1] (⟨rfl, rfl⟩) ((prm (by repeat constructor)))

theorem slices_BinarySearch_L_int_int_none_fn (v : Value) (x : Int) : Does P F_slices_BinarySearch_L_int_int [v, I x] [sl v encN [] T_int 1] fun u cs => u = .tuple #[I 0, B false] ∧ cs = [sl v encN [] T_int 1] := by
  refine Does.mk (N := 54) fn_slices_BinarySearch_L_int_int rfl rfl rfl (fun F => ?_)
  simp only [List.cons_append, List.nil_append]
  refine XC.seq ?_
  refine XC.reg ?_
  refine XL.as rfl rfl ?_
  refine XL.as rfl rfl ?_
  refine XL.nil ?_
  refine XQ.thenN ?_
  refine XC.seq ?_
  refine XC.reg ?_
  refine XL.mv rfl rfl ?_
  refine XL.lenS e_L_int rfl rfl ?_
  refine XL.as rfl rfl ?_
  refine XL.nil ?_
  refine XQ.thenN ?_
  refine XC.seq ?_
  refine XC.reg ?_
  refine XL.mv rfl rfl ?_
  refine XL.as rfl rfl ?_
  refine XL.as rfl rfl ?_
  refine XL.nil ?_
  refine XQ.thenN ?_
  refine XC.seq ?_
  refine XC.block ?_
  refine XC.loop (ι := Bool) (fun z => [(0, v), (1, I x), (6, I 0), (7, I 0), (8, I (if z then 0 else 0))]) (fun z => [sl v encN [] T_int 1, F]) (fun z => True) (fun z => if z then 0 else 1) false trivial ⟨rfl, rfl, rfl, rfl, rfl, trivial⟩ (prm (by repeat constructor)) (fun z hz => ?_)
  refine XC.seq ?_
  refine XC.seq ?_
  refine XC.reg ?_
  refine XL.mv rfl rfl ?_
  refine XL.mv rfl rfl ?_
  refine XL.bin rfl rfl rfl (bLss) ?_
  refine XL.nil ?_
  refine XQ.thenN ?_
  refine XC.condF' rfl (by cases z <;> rfl) ?_
  refine XC.exit ?_
  refine XQ.thenE ?_
  refine XQ.thenE ?_
  refine XQ.blkE ?_
  refine XQ.thenN ?_
  refine XC.seq ?_
  refine XC.reg ?_
  refine XL.mv rfl rfl ?_
  refine XL.mv rfl rfl ?_
  refine XL.mv rfl rfl ?_
  refine XL.bin rfl rfl rfl (bLss) ?_
  refine XL.mv rfl rfl ?_
  refine XL.re 35 (u := .bool false) rfl (rfl) ?_
  refine XL.no rfl rfl ?_
  refine XL.no rfl rfl ?_
  refine XL.no rfl rfl ?_
  refine XL.no rfl rfl ?_
  refine XL.no rfl rfl ?_
  refine XL.no rfl rfl ?_
  refine XL.no rfl rfl ?_
  refine XL.no rfl rfl ?_
  refine XL.no rfl rfl ?_
  refine XL.no rfl rfl ?_
  refine XL.no rfl rfl ?_
  refine XL.no rfl rfl ?_
  refine XL.no rfl rfl ?_
  refine XL.no rfl rfl ?_
  refine XL.no rfl rfl ?_
  refine XL.no rfl rfl ?_
  refine XL.no rfl rfl ?_
  refine XL.pkF rfl rfl rfl ?_
  refine XL.as rfl rfl ?_
  refine XL.as rfl rfl ?_
  refine XL.nil ?_
  refine XQ.thenN ?_
  refine XC.ret ?_
  exact XQ.ret (.inl rfl) rfl (rC (resT rfl) <| rC (resT rfl) <| rN) [sl v encN [] T_int 1] (⟨rfl, rfl⟩) ((prm (by repeat constructor)))

theorem slices_BinarySearch_L_int_int_same_fn (v : Value) (x : Int) : Does P F_slices_BinarySearch_L_int_int [v, I x] [sl v encN [x] T_int 1] fun u cs => u = .tuple #[I 0, B true] ∧ cs = [sl v encN [x] T_int 1] := by
  refine Does.mk (N := 54) fn_slices_BinarySearch_L_int_int rfl rfl rfl (fun F => ?_)
  simp only [List.cons_append, List.nil_append]
  refine XC.seq ?_
  refine XC.reg ?_
  refine XL.as rfl rfl ?_
  refine XL.as rfl rfl ?_
  refine XL.nil ?_
  refine XQ.thenN ?_
  refine XC.seq ?_
  refine XC.reg ?_
  refine XL.mv rfl rfl ?_
  refine XL.lenS e_L_int rfl rfl ?_
  refine XL.as rfl rfl ?_
  refine XL.nil ?_
  refine XQ.thenN ?_
  refine XC.seq ?_
  refine XC.reg ?_
  refine XL.mv rfl rfl ?_
  refine XL.as rfl rfl ?_
  refine XL.as rfl rfl ?_
  refine XL.nil ?_
  refine XQ.thenN ?_
  refine XC.seq ?_
  refine XC.block ?_
  refine XC.loop (ι := Bool) (fun z => [(0, v), (1, I x), (6, I 1), (7, I 0), (8, I (if z then 0 else 1))]) (fun z => [sl v encN [x] T_int 1, F]) (fun z => True) (fun z => if z then 0 else 1) false trivial ⟨rfl, rfl, rfl, rfl, rfl, trivial⟩ (prm (by repeat constructor)) (fun z hz => ?_)
  refine XC.seq ?_
  refine XC.seq ?_
  refine XC.reg ?_
  refine XL.mv rfl rfl ?_
  refine XL.mv rfl rfl ?_
  refine XL.bin rfl rfl rfl (bLss) ?_
  refine XL.nil ?_
  refine XQ.thenN ?_
  refine XC.cond rfl (fun hc0 => ?_) (fun hc0 => ?_)
  · obtain rfl : z = false := by cases z <;> simp_all
    refine XC.skip ?_
    refine XQ.thenN ?_
    refine XC.block ?_
    refine XC.seq ?_
    refine XC.reg ?_
    refine XL.mv rfl rfl ?_
    refine XL.mv rfl rfl ?_
    refine XL.bin rfl rfl rfl (bAdd (by omega)) ?_
    first | refine XL.cvI u_int u_uint rfl (IntWalk.u64_in _ (by omega)) rfl ?_ | refine XL.cvI u_int u_uint rfl rfl rfl ?_
    refine XL.bin rfl rfl rfl (bShr (by omega)) ?_
    first | refine XL.cvI u_uint u_int rfl (IntWalk.i64_in _ (by omega)) rfl ?_ | refine XL.cvI u_uint u_int rfl rfl rfl ?_
    refine XL.as rfl rfl ?_
    refine XL.nil ?_
    refine XQ.thenN ?_
    refine XC.seq ?_
    refine XC.reg ?_
    refine XL.mv rfl rfl ?_
    refine XL.mv rfl rfl ?_
    refine XL.ixS 0 e_L_int rfl rfl rfl (by simp) rfl (fun b24 _ => ?_)
    refine XL.ldS1 (u := I x) o_int rfl (by simp) rfl rfl ?_
    refine XL.mv rfl rfl ?_
    refine XL.call hb_cmp_Less_int rfl rfl (cmp_Less_int_fn _ _) (tn) ?_
    rintro _ _ ⟨rfl, rfl⟩
    simp only [List.cons_append, List.nil_append]
    refine XL.nil ?_
    refine XQ.thenN ?_
    refine XC.condF' rfl (by simp) ?_
    refine XC.reg ?_
    refine XL.mv rfl rfl ?_
    refine XL.as rfl rfl ?_
    refine XL.nil ?_
    refine XQ.blkN ?_
    refine XQ.again true trivial (by decide) ⟨rfl, rfl, rfl, rfl, rfl, trivial⟩ (prm (by repeat constructor))
  · obtain rfl : z = true := by cases z <;> simp_all
    refine XC.exit ?_
    refine XQ.thenE ?_
    refine XQ.thenE ?_
    refine XQ.blkE ?_
    refine XQ.thenN ?_
    refine XC.seq ?_
    refine XC.reg ?_
    refine XL.mv rfl rfl ?_
    refine XL.mv rfl rfl ?_
    refine XL.mv rfl rfl ?_
    refine XL.bin rfl rfl rfl (bLss) ?_
    refine XL.mv rfl rfl ?_
    refine XL.re 35 (u := .bool true) rfl (rfl) ?_
    refine XL.mv rfl rfl ?_
    refine XL.mv rfl rfl ?_
    refine XL.ixS 0 e_L_int rfl rfl rfl (by simp) rfl (fun b38 _ => ?_)
    refine XL.ldS1 (u := I x) o_int rfl (by simp) rfl rfl ?_
    refine XL.mv rfl rfl ?_
    refine XL.bin rfl rfl rfl (bEqI) ?_
    refine XL.mv rfl rfl ?_
    refine XL.re 42 (u := .bool true) rfl (congrArg Value.bool (decide_eq_true rfl)) ?_
    refine XL.no rfl rfl ?_
    refine XL.no rfl rfl ?_
    refine XL.no rfl rfl ?_
    refine XL.no rfl rfl ?_
    refine XL.no rfl rfl ?_
    refine XL.no rfl rfl ?_
    refine XL.no rfl rfl ?_
    refine XL.no rfl rfl ?_
    refine XL.no rfl rfl ?_
    refine XL.pkT rfl rfl rfl ?_
    refine XL.pkT rfl rfl rfl ?_
    refine XL.as rfl rfl ?_
    refine XL.as rfl rfl ?_
    refine XL.nil ?_
    refine XQ.thenN ?_
    refine XC.ret ?_
    exact XQ.ret (.inl rfl) rfl (rC (resT rfl) <| rC (resT rfl) <| rN) [sl v encN [x] T_int 1] (⟨rfl, rfl⟩) ((prm (by repeat constructor)))

theorem slices_Insert_L_string_string_fn (v v2 : Value) (l l2 : List (List UInt8)) (h0 : 0 < l2.length) (hl : l.length ≤ 1000000) (hl2 : l2.length ≤ 1000000) : Does P F_slices_Insert_L_string_string [v, I (l.length : Int), v2] [sl v encS l T_string 1, sl v2 encS l2 T_string 1] fun u cs => cs = [sl u encS (l ++ l2) T_string 1] := by
  refine Does.mk (N := 95) fn_slices_Insert_L_string_string rfl rfl rfl (fun F => ?_)
  simp only [List.cons_append, List.nil_append]
  refine XC.seq ?_
  refine XC.reg ?_
  refine XL.as rfl rfl ?_
  refine XL.nil ?_
  refine XQ.thenN ?_
  refine XC.seq ?_
  refine XC.reg ?_
  refine XL.mv rfl rfl ?_
  refine XL.mv rfl rfl ?_
  refine XL.slV l.length l.length e_L_string rfl ⟨_, rfl⟩ rfl (by omega) (by omega) rfl rfl (fun v12 _ _ => ?_)
  refine XL.nil ?_
  refine XQ.thenN ?_
  refine XC.seq ?_
  refine XC.reg ?_
  refine XL.mv rfl rfl ?_
  refine XL.lenS e_L_string rfl rfl ?_
  refine XL.as rfl rfl ?_
  refine XL.nil ?_
  refine XQ.thenN ?_
  refine XC.seq ?_
  refine XC.seq ?_
  refine XC.reg ?_
  refine XL.mv rfl rfl ?_
  refine XL.bin rfl rfl rfl (bEqI) ?_
  refine XL.nil ?_
  refine XQ.thenN ?_
  refine XC.condF' rfl (decide_eq_false (by omega)) ?_
  refine XC.skip ?_
  refine XQ.thenN ?_
  refine XC.seq ?_
  refine XC.reg ?_
  refine XL.mv rfl rfl ?_
  refine XL.lenS e_L_string rfl rfl ?_
  refine XL.as rfl rfl ?_
  refine XL.nil ?_
  refine XQ.thenN ?_
  refine XC.seq ?_
  refine XC.seq ?_
  refine XC.reg ?_
  refine XL.mv rfl rfl ?_
  refine XL.mv rfl rfl ?_
  refine XL.bin rfl rfl rfl (bEqI) ?_
  refine XL.nil ?_
  refine XQ.thenN ?_
  refine XC.condT' rfl (decide_eq_true rfl) ?_
  refine XC.seq ?_
  refine XC.reg ?_
  refine XL.mv rfl rfl ?_
  refine XL.mv rfl rfl ?_
  refine XL.app l2 e_L_string e_L_string z_string rfl rfl rfl rfl (fun x _ => rfl) (by omega) rfl (fun v25 _ => ?_)
  refine XL.as rfl rfl ?_
  refine XL.nil ?_
  refine XQ.thenN ?_
  refine XC.ret ?_
  refine XQ.thenR ?_
  exact XQ.ret (.inl rfl) rfl (rC (resT rfl) <| rN) [sl v25 encS (l ++ l2) T_string 1] (rfl) ((prm (by repeat constructor)))

theorem slices_Insert_L_int_int_fn (v v2 : Value) (l l2 : List (Int)) (h0 : 0 < l2.length) (hl : l.length ≤ 1000000) (hl2 : l2.length ≤ 1000000) : Does P F_slices_Insert_L_int_int [v, I (l.length : Int), v2] [sl v encN l T_int 1, sl v2 encN l2 T_int 1] fun u cs => cs = [sl u encN (l ++ l2) T_int 1] := by
  refine Does.mk (N := 95) fn_slices_Insert_L_int_int rfl rfl rfl (fun F => ?_)
  simp only [List.cons_append, List.nil_append]
  refine XC.seq ?_
  refine XC.reg ?_
  refine XL.as rfl rfl ?_
  refine XL.nil ?_
  refine XQ.thenN ?_
  refine XC.seq ?_
  refine XC.reg ?_
  refine XL.mv rfl rfl ?_
  refine XL.mv rfl rfl ?_
  refine XL.slV l.length l.length e_L_int rfl ⟨_, rfl⟩ rfl (by omega) (by omega) rfl rfl (fun v12 _ _ => ?_)
  refine XL.nil ?_
  refine XQ.thenN ?_
  refine XC.seq ?_
  refine XC.reg ?_
  refine XL.mv rfl rfl ?_
  refine XL.lenS e_L_int rfl rfl ?_
  refine XL.as rfl rfl ?_
  refine XL.nil ?_
  refine XQ.thenN ?_
  refine XC.seq ?_
  refine XC.seq ?_
  refine XC.reg ?_
  refine XL.mv rfl rfl ?_
  refine XL.bin rfl rfl rfl (bEqI) ?_
  refine XL.nil ?_
  refine XQ.thenN ?_
  refine XC.condF' rfl (decide_eq_false (by omega)) ?_
  refine XC.skip ?_
  refine XQ.thenN ?_
  refine XC.seq ?_
  refine XC.reg ?_
  refine XL.mv rfl rfl ?_
  refine XL.lenS e_L_int rfl rfl ?_
  refine XL.as rfl rfl ?_
  refine XL.nil ?_
  refine XQ.thenN ?_
  refine XC.seq ?_
  refine XC.seq ?_
  refine XC.reg ?_
  refine XL.mv rfl rfl ?_
  refine XL.mv rfl rfl ?_
  refine XL.bin rfl rfl rfl (bEqI) ?_
  refine XL.nil ?_
  refine XQ.thenN ?_
  refine XC.condT' rfl (decide_eq_true rfl) ?_
  refine XC.seq ?_
  refine XC.reg ?_
  refine XL.mv rfl rfl ?_
  refine XL.mv rfl rfl ?_
  refine XL.app l2 e_L_int e_L_int z_int rfl rfl rfl rfl (fun x _ => rfl) (by omega) rfl (fun v25 _ => ?_)
  refine XL.as rfl rfl ?_
  refine XL.nil ?_
  refine XQ.thenN ?_
  refine XC.ret ?_
  refine XQ.thenR ?_
  exact XQ.ret (.inl rfl) rfl (rC (resT rfl) <| rN) [sl v25 encN (l ++ l2) T_int 1] (rfl) ((prm (by repeat constructor)))

theorem slices_Insert_L_dir_Entry_dir_Entry_fn (v v2 : Value) (l l2 : List (List UInt8 × Int × Int)) (h0 : 0 < l2.length) (hl : l.length ≤ 1000000) (hl2 : l2.length ≤ 1000000) : Does P F_slices_Insert_L_dir_Entry_dir_Entry [v, I (l.length : Int), v2] [sl v encE l T_dir_Entry 3, sl v2 encE l2 T_dir_Entry 3] fun u cs => cs = [sl u encE (l ++ l2) T_dir_Entry 3] := by
  refine Does.mk (N := 95) fn_slices_Insert_L_dir_Entry_dir_Entry rfl rfl rfl (fun F => ?_)
  simp only [List.cons_append, List.nil_append]
  refine XC.seq ?_
  refine XC.reg ?_
  refine XL.as rfl rfl ?_
  refine XL.nil ?_
  refine XQ.thenN ?_
  refine XC.seq ?_
  refine XC.reg ?_
  refine XL.mv rfl rfl ?_
  refine XL.mv rfl rfl ?_
  refine XL.slV l.length l.length e_L_dir_Entry rfl ⟨_, rfl⟩ rfl (by omega) (by omega) rfl rfl (fun v12 _ _ => ?_)
  refine XL.nil ?_
  refine XQ.thenN ?_
  refine XC.seq ?_
  refine XC.reg ?_
  refine XL.mv rfl rfl ?_
  refine XL.lenS e_L_dir_Entry rfl rfl ?_
  refine XL.as rfl rfl ?_
  refine XL.nil ?_
  refine XQ.thenN ?_
  refine XC.seq ?_
  refine XC.seq ?_
  refine XC.reg ?_
  refine XL.mv rfl rfl ?_
  refine XL.bin rfl rfl rfl (bEqI) ?_
  refine XL.nil ?_
  refine XQ.thenN ?_
  refine XC.condF' rfl (decide_eq_false (by omega)) ?_
  refine XC.skip ?_
  refine XQ.thenN ?_
  refine XC.seq ?_
  refine XC.reg ?_
  refine XL.mv rfl rfl ?_
  refine XL.lenS e_L_dir_Entry rfl rfl ?_
  refine XL.as rfl rfl ?_
  refine XL.nil ?_
  refine XQ.thenN ?_
  refine XC.seq ?_
  refine XC.seq ?_
  refine XC.reg ?_
  refine XL.mv rfl rfl ?_
  refine XL.mv rfl rfl ?_
  refine XL.bin rfl rfl rfl (bEqI) ?_
  refine XL.nil ?_
  refine XQ.thenN ?_
  refine XC.condT' rfl (decide_eq_true rfl) ?_
  refine XC.seq ?_
  refine XC.reg ?_
  refine XL.mv rfl rfl ?_
  refine XL.mv rfl rfl ?_
  refine XL.app l2 e_L_dir_Entry e_L_dir_Entry z_dir_Entry rfl rfl rfl rfl (fun x _ => rfl) (by omega) rfl (fun v25 _ => ?_)
  refine XL.as rfl rfl ?_
  refine XL.nil ?_
  refine XQ.thenN ?_
  refine XC.ret ?_
  refine XQ.thenR ?_
  exact XQ.ret (.inl rfl) rfl (rC (resT rfl) <| rN) [sl v25 encE (l ++ l2) T_dir_Entry 3] (rfl) ((prm (by repeat constructor)))
end Go.Proofs.YteeiccjglmehcaaGreat
