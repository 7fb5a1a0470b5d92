/-
  Package core: numbers to files, what is set. Printed by mk.py out of spec_core2.py.
-/
import Derived.Test.YteeiccjglmehcaaGreatSxC1
namespace Go.Proofs.YteeiccjglmehcaaGreat
open Go Go.Sx

@[reducible] def metF (k : Int × List UInt8) : List Value := [I k.1, S k.2]
@[reducible] def metE (k : Int × List UInt8) : Value := .agg (metF k).toArray
theorem metR (a b : Int × List UInt8) : EqR [.int .i64, .string] (metF a) (metF b) (decide (a = b)) := by
  have h := EqR.int (k0 := .i64) (k := .i64) (a := a.1) (c := b.1) (EqR.str (a := a.2) (c := b.2) EqR.nil)
  obtain ⟨a1, a2⟩ := a
  obtain ⟨b1, b2⟩ := b
  simpa using h
theorem metK : KeyOk P T_core_Met metE := keyStruct (by kernel_rfl : eqFs P T_core_Met = some [.int .i64, .string]) metR
def metC (v : Value) : Chunk := exi fun ms : List ((Int × List UInt8) × Value) => [mapC v metE ms]
@[reducible] def fsc (f : Nat) (vm vt : Value) (last : Int) : Chunk := blk f [vm, I last, vt] T_core_FS

theorem core_FS_touch_fn (f : Nat) (vm vt : Value) (last : Int) (id : Int) (s : List UInt8) : Does P F_core_FS_touch [pt f, I id, S s] [fsc f vm vt last, metC vt] fun u cs => u = .tuple #[] ∧ cs = [fsc f vm vt last, metC vt] := by
  refine Does.mk (N := 13) fn_core_FS_touch rfl rfl rfl (fun F => ?_)
  simp only [List.cons_append, List.nil_append]
  refine XC.opn (tS t0) ?_
  intro ms
  dsimp only [List.cons_append, List.nil_append]
  refine XC.reg ?_
  refine XL.mv rfl rfl ?_
  refine XL.ncP rfl rfl ?_
  refine XL.fa fo_core_FS_2 rfl rfl ?_
  refine XL.ld o_M_core_Met_int rfl (by rfl) rfl ?_
  refine XL.mv rfl rfl ?_
  refine XL.mv rfl rfl ?_
  refine XL.bd z_core_Met p_core_Met rfl rfl ?_
  refine XL.muM (enc := metE) (id, s) m_M_core_Met_int metK rfl rfl rfl rfl ?_
  refine XL.nil ?_
  exact XQ.ret (.inr rfl) rfl (rN) [fsc f vm vt last, metC vt] (⟨rfl, rfl⟩) (fun w h => Sat.perm t1 (Sat.shut (f := fun ms => [mapC vt metE ms]) (setM ms (id, s) (I 1)) h))

theorem core_FS_get_fn (f : Nat) (vm vt : Value) (last : Int) (es : List (Int × Value)) (id : Int) (b : Nat) (hb : getM es id = some (pt b)) : Does P F_core_FS_get [pt f, I id] [fsc f vm vt last, mapC vm encKI es] fun u cs => u = .tuple #[pt b, I 0] ∧ cs = [fsc f vm vt last, mapC vm encKI es] := by
  refine Does.mk (N := 23) fn_core_FS_get rfl rfl rfl (fun F => ?_)
  simp only [List.cons_append, List.nil_append]
  refine XC.seq ?_
  refine XC.reg ?_
  refine XL.as rfl rfl ?_
  refine XL.as rfl rfl ?_
  refine XL.nil ?_
  refine XQ.thenN ?_
  refine XC.seq ?_
  refine XC.seq ?_
  refine XC.reg ?_
  refine XL.mv rfl rfl ?_
  refine XL.bin rfl rfl rfl (bEqPF u_P_core_FS) ?_
  refine XL.mv rfl rfl ?_
  refine XL.re 8 (u := .bool false) rfl (rfl) ?_
  refine XL.mv rfl rfl ?_
  refine XL.ncP rfl rfl ?_
  refine XL.fa fo_core_FS_0 rfl rfl ?_
  refine XL.ld o_M_int_P_core_Node rfl (by rfl) rfl ?_
  refine XL.mv rfl rfl ?_
  refine XL.lkV id m_M_int_P_core_Node (keyI u_int) zv_P_core_Node rfl rfl rfl ?_
  simp only [hb, Option.getD_some]
  refine XL.bin rfl rfl rfl (bEqPF u_P_core_Node) ?_
  refine XL.pkF rfl rfl rfl ?_
  refine XL.nil ?_
  refine XQ.thenN ?_
  refine XC.condF' rfl (rfl) ?_
  refine XC.skip ?_
  refine XQ.thenN ?_
  refine XC.seq ?_
  refine XC.reg ?_
  refine XL.mv rfl rfl ?_
  refine XL.ncP rfl rfl ?_
  refine XL.fa fo_core_FS_0 rfl rfl ?_
  refine XL.ld o_M_int_P_core_Node rfl (by rfl) rfl ?_
  refine XL.mv rfl rfl ?_
  refine XL.lkV id m_M_int_P_core_Node (keyI u_int) zv_P_core_Node rfl rfl rfl ?_
  simp only [hb, Option.getD_some]
  refine XL.as rfl rfl ?_
  refine XL.as rfl rfl ?_
  refine XL.nil ?_
  refine XQ.thenN ?_
  refine XC.ret ?_
  exact XQ.ret (.inl rfl) rfl (rC (resT rfl) <| rC (resT rfl) <| rN) [fsc f vm vt last, mapC vm encKI es] (⟨rfl, rfl⟩) (fun w h => h)

theorem core_FS_dir_fn (f : Nat) (vm vt : Value) (last : Int) (es : List (Int × Value)) (id : Int) (b : Nat) (hb : getM es id = some (pt b)) (n : Nd) (p : Value) (hk : n.kind = 2) (now bits : Int) : Does P F_core_FS_dir [pt f, clV now, I id, I bits] [fsc f vm vt last, mapC vm encKI es, ndc b n p] fun u cs => u = .tuple #[pt b, I 0] ∧ cs = [fsc f vm vt last, mapC vm encKI es, ndc b n p] := by
  refine Does.mk (N := 36) fn_core_FS_dir rfl rfl rfl (fun F => ?_)
  simp only [List.cons_append, List.nil_append]
  refine XC.seq ?_
  refine XC.reg ?_
  refine XL.bx rfl rfl rfl (fun b5 => ?_)
  refine XL.as rfl rfl ?_
  refine XL.as rfl rfl ?_
  refine XL.nil ?_
  refine XQ.thenN ?_
  refine XC.seq ?_
  refine XC.reg ?_
  refine XL.mv rfl rfl ?_
  refine XL.mv rfl rfl ?_
  refine XL.call hb_core_FS_get rfl rfl (core_FS_get_fn f vm vt last es id b hb) (t1.c <| t1.c tn) ?_
  rintro _ _ ⟨rfl, rfl⟩
  simp only [List.cons_append, List.nil_append]
  refine XL.mv rfl rfl ?_
  refine XL.ex rfl rfl rfl ?_
  refine XL.ex rfl rfl rfl ?_
  refine XL.as rfl rfl ?_
  refine XL.as rfl rfl ?_
  refine XL.nil ?_
  refine XQ.thenN ?_
  refine XC.seq ?_
  refine XC.block ?_
  refine XC.seq ?_
  refine XC.reg ?_
  refine XL.mv rfl rfl ?_
  refine XL.bin rfl rfl rfl (bNeI) ?_
  refine XL.as rfl rfl ?_
  refine XL.nil ?_
  refine XQ.thenN ?_
  refine XC.condF' rfl (rfl) ?_
  refine XC.seq ?_
  refine XC.reg ?_
  refine XL.mv rfl rfl ?_
  refine XL.ncP rfl rfl ?_
  refine XL.fa fo_core_Node_0 rfl rfl ?_
  refine XL.fa fo_attr_Attr_0 rfl rfl ?_
  refine XL.ld o_int rfl (by rfl) rfl ?_
  refine XL.bin rfl rfl rfl (bNeI) ?_
  refine XL.as rfl rfl ?_
  refine XL.nil ?_
  refine XQ.thenN ?_
  refine XC.condF' rfl (decide_eq_false (by omega)) ?_
  refine XC.seq ?_
  refine XC.reg ?_
  refine XL.ldM g_core_Caller rfl (by rfl) rfl ?_
  refine XL.mv rfl rfl ?_
  refine XL.mv rfl rfl ?_
  refine XL.call hb_core_Caller_may rfl rfl (core_Caller_may_fn b n p _ _) (t3.c tn) ?_
  rintro _ _ ⟨rfl, rfl⟩
  simp only [List.cons_append, List.nil_append]
  refine XL.notT rfl rfl ?_
  refine XL.as rfl rfl ?_
  refine XL.nil ?_
  refine XQ.thenN ?_
  refine XC.condF' rfl (rfl) ?_
  refine XC.skip ?_
  refine XQ.blkN ?_
  refine XQ.thenN ?_
  refine XC.seq ?_
  refine XC.reg ?_
  refine XL.mv rfl rfl ?_
  refine XL.as rfl rfl ?_
  refine XL.as rfl rfl ?_
  refine XL.nil ?_
  refine XQ.thenN ?_
  refine XC.ret ?_
  exact XQ.ret (.inl rfl) rfl (rC (resT rfl) <| rC (resT rfl) <| rN) [fsc f vm vt last, mapC vm encKI es, ndc b n p] (⟨rfl, rfl⟩) ((prm (by repeat constructor)))

theorem core_FS_file_fn (f : Nat) (vm vt : Value) (last : Int) (es : List (Int × Value)) (id : Int) (b : Nat) (hb : getM es id = some (pt b)) (n : Nd) (p : Value) (hk : n.kind = 1) (now bits : Int) : Does P F_core_FS_file [pt f, clV now, I id, I bits] [fsc f vm vt last, mapC vm encKI es, ndc b n p] fun u cs => u = .tuple #[pt b, I 0] ∧ cs = [fsc f vm vt last, mapC vm encKI es, ndc b n p] := by
  refine Does.mk (N := 49) fn_core_FS_file rfl rfl rfl (fun F => ?_)
  simp only [List.cons_append, List.nil_append]
  refine XC.seq ?_
  refine XC.reg ?_
  refine XL.bx rfl rfl rfl (fun b5 => ?_)
  refine XL.as rfl rfl ?_
  refine XL.as rfl rfl ?_
  refine XL.nil ?_
  refine XQ.thenN ?_
  refine XC.seq ?_
  refine XC.reg ?_
  refine XL.mv rfl rfl ?_
  refine XL.mv rfl rfl ?_
  refine XL.call hb_core_FS_get rfl rfl (core_FS_get_fn f vm vt last es id b hb) (t1.c <| t1.c tn) ?_
  rintro _ _ ⟨rfl, rfl⟩
  simp only [List.cons_append, List.nil_append]
  refine XL.mv rfl rfl ?_
  refine XL.ex rfl rfl rfl ?_
  refine XL.ex rfl rfl rfl ?_
  refine XL.as rfl rfl ?_
  refine XL.as rfl rfl ?_
  refine XL.nil ?_
  refine XQ.thenN ?_
  refine XC.seq ?_
  refine XC.block ?_
  refine XC.seq ?_
  refine XC.reg ?_
  refine XL.mv rfl rfl ?_
  refine XL.bin rfl rfl rfl (bNeI) ?_
  refine XL.as rfl rfl ?_
  refine XL.nil ?_
  refine XQ.thenN ?_
  refine XC.condF' rfl (rfl) ?_
  refine XC.seq ?_
  refine XC.reg ?_
  refine XL.mv rfl rfl ?_
  refine XL.ncP rfl rfl ?_
  refine XL.fa fo_core_Node_0 rfl rfl ?_
  refine XL.fa fo_attr_Attr_0 rfl rfl ?_
  refine XL.ld o_int rfl (by rfl) rfl ?_
  refine XL.bin rfl rfl rfl (bEqI) ?_
  refine XL.as rfl rfl ?_
  refine XL.nil ?_
  refine XQ.thenN ?_
  refine XC.condF' rfl (decide_eq_false (by omega)) ?_
  refine XC.seq ?_
  refine XC.reg ?_
  refine XL.mv rfl rfl ?_
  refine XL.ncP rfl rfl ?_
  refine XL.fa fo_core_Node_0 rfl rfl ?_
  refine XL.fa fo_attr_Attr_0 rfl rfl ?_
  refine XL.ld o_int rfl (by rfl) rfl ?_
  refine XL.bin rfl rfl rfl (bNeI) ?_
  refine XL.as rfl rfl ?_
  refine XL.nil ?_
  refine XQ.thenN ?_
  refine XC.condF' rfl (decide_eq_false (by omega)) ?_
  refine XC.seq ?_
  refine XC.reg ?_
  refine XL.ldM g_core_Caller rfl (by rfl) rfl ?_
  refine XL.mv rfl rfl ?_
  refine XL.mv rfl rfl ?_
  refine XL.call hb_core_Caller_may rfl rfl (core_Caller_may_fn b n p _ _) (t3.c tn) ?_
  rintro _ _ ⟨rfl, rfl⟩
  simp only [List.cons_append, List.nil_append]
  refine XL.notT rfl rfl ?_
  refine XL.mv rfl rfl ?_
  refine XL.re 42 (u := .bool false) rfl (rfl) ?_
  refine XL.no rfl rfl ?_
  refine XL.no rfl rfl ?_
  refine XL.no rfl rfl ?_
  refine XL.no rfl rfl ?_
  refine XL.pkF rfl rfl rfl ?_
  refine XL.as rfl rfl ?_
  refine XL.nil ?_
  refine XQ.thenN ?_
  refine XC.condF' rfl (rfl) ?_
  refine XC.skip ?_
  refine XQ.blkN ?_
  refine XQ.thenN ?_
  refine XC.seq ?_
  refine XC.reg ?_
  refine XL.mv rfl rfl ?_
  refine XL.as rfl rfl ?_
  refine XL.as rfl rfl ?_
  refine XL.nil ?_
  refine XQ.thenN ?_
  refine XC.ret ?_
  exact XQ.ret (.inl rfl) rfl (rC (resT rfl) <| rC (resT rfl) <| rN) [fsc f vm vt last, mapC vm encKI es, ndc b n p] (⟨rfl, rfl⟩) ((prm (by repeat constructor)))
end Go.Proofs.YteeiccjglmehcaaGreat
