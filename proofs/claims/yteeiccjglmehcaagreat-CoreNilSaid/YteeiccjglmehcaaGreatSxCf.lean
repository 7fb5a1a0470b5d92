/-
  Package core: no file system. Printed by mk.py out of spec_coref.py.
-/
import Derived.Test.YteeiccjglmehcaaGreatSxCc
import Derived.Test.YteeiccjglmehcaaGreatSx17
namespace Go.Proofs.YteeiccjglmehcaaGreat
open Go Go.Sx

set_option synthInstance.maxSize 4000
set_option synthInstance.maxHeartbeats 200000
@[reducible] def cv (u g : Int) (v : Value) (n : Int) : List Value := [I u, I g, v, I n]

theorem core_FS_get_nil_fn (id : Int) : Does P F_core_FS_get [nilP, I id] [] fun r cs => r = .tuple #[nilP, I 70] ∧ cs = [] := by
  refine Does.mk (N := 23) fn_core_FS_get rfl rfl rfl (fun F => ?_)
  simp only [List.cons_append, List.nil_append]
  refine XC.seq ?_
  refine XC.reg ?_
  refine XL.as rfl rfl ?_
  refine XL.as rfl rfl ?_
  refine XL.nil ?_
  refine XQ.thenN ?_
  refine XC.seq ?_
  refine XC.seq ?_
  refine XC.reg ?_
  refine XL.mv rfl rfl ?_
  refine XL.bin rfl rfl rfl (bEqPT u_P_core_FS) ?_
  refine XL.mv rfl rfl ?_
  refine XL.re 8 (u := .bool true) rfl (rfl) ?_
  refine XL.no rfl rfl ?_
  refine XL.no rfl rfl ?_
  refine XL.no rfl rfl ?_
  refine XL.no rfl rfl ?_
  refine XL.no rfl rfl ?_
  refine XL.no rfl rfl ?_
  refine XL.no rfl rfl ?_
  refine XL.pkT rfl rfl rfl ?_
  refine XL.nil ?_
  refine XQ.thenN ?_
  refine XC.condT' rfl (rfl) ?_
  refine XC.seq ?_
  refine XC.reg ?_
  refine XL.as rfl rfl ?_
  refine XL.as rfl rfl ?_
  refine XL.nil ?_
  refine XQ.thenN ?_
  refine XC.ret ?_
  refine XQ.thenR ?_
  exact XQ.ret (.inl rfl) rfl (rC (resT rfl) <| rC (resT rfl) <| rN) [] (⟨rfl, rfl⟩) ((prm (by repeat constructor)))

theorem core_FS_dir_nil_fn (u g : Int) (v : Value) (hv : OneV v) (now : Int) (id bits : Int) : Does P F_core_FS_dir [nilP, .agg (cv u g v now).toArray, I id, I bits] [] fun r cs => r = .tuple #[nilP, I 70] ∧ cs = [] := by
  refine Does.mk (N := 36) fn_core_FS_dir rfl rfl rfl (fun F => ?_)
  simp only [List.cons_append, List.nil_append]
  refine XC.seq ?_
  refine XC.reg ?_
  refine XL.bx rfl rfl rfl (fun b5 => ?_)
  refine XL.as rfl rfl ?_
  refine XL.as rfl rfl ?_
  refine XL.nil ?_
  refine XQ.thenN ?_
  refine XC.seq ?_
  refine XC.reg ?_
  refine XL.mv rfl rfl ?_
  refine XL.mv rfl rfl ?_
  refine XL.call hb_core_FS_get rfl rfl (core_FS_get_nil_fn id) (tn) ?_
  rintro _ _ ⟨rfl, rfl⟩
  simp only [List.cons_append, List.nil_append]
  refine XL.mv rfl rfl ?_
  refine XL.ex rfl rfl rfl ?_
  refine XL.ex rfl rfl rfl ?_
  refine XL.as rfl rfl ?_
  refine XL.as rfl rfl ?_
  refine XL.nil ?_
  refine XQ.thenN ?_
  refine XC.seq ?_
  refine XC.block ?_
  refine XC.seq ?_
  refine XC.reg ?_
  refine XL.mv rfl rfl ?_
  refine XL.bin rfl rfl rfl (bNeI) ?_
  refine XL.as rfl rfl ?_
  refine XL.nil ?_
  refine XQ.thenN ?_
  refine XC.condT' rfl (rfl) ?_
  refine XC.seq ?_
  refine XC.reg ?_
  refine XL.mv rfl rfl ?_
  refine XL.as rfl rfl ?_
  refine XL.as rfl rfl ?_
  refine XL.nil ?_
  refine XQ.thenN ?_
  refine XC.ret ?_
  refine XQ.blkR ?_
  refine XQ.thenR ?_
  exact XQ.ret (.inl rfl) rfl (rC (resT rfl) <| rC (resT rfl) <| rN) [] (⟨rfl, rfl⟩) ((prm (by repeat constructor)))

theorem core_FS_file_nil_fn (u g : Int) (v : Value) (hv : OneV v) (now : Int) (id bits : Int) : Does P F_core_FS_file [nilP, .agg (cv u g v now).toArray, I id, I bits] [] fun r cs => r = .tuple #[nilP, I 70] ∧ cs = [] := by
  refine Does.mk (N := 49) fn_core_FS_file rfl rfl rfl (fun F => ?_)
  simp only [List.cons_append, List.nil_append]
  refine XC.seq ?_
  refine XC.reg ?_
  refine XL.bx rfl rfl rfl (fun b5 => ?_)
  refine XL.as rfl rfl ?_
  refine XL.as rfl rfl ?_
  refine XL.nil ?_
  refine XQ.thenN ?_
  refine XC.seq ?_
  refine XC.reg ?_
  refine XL.mv rfl rfl ?_
  refine XL.mv rfl rfl ?_
  refine XL.call hb_core_FS_get rfl rfl (core_FS_get_nil_fn id) (tn) ?_
  rintro _ _ ⟨rfl, rfl⟩
  simp only [List.cons_append, List.nil_append]
  refine XL.mv rfl rfl ?_
  refine XL.ex rfl rfl rfl ?_
  refine XL.ex rfl rfl rfl ?_
  refine XL.as rfl rfl ?_
  refine XL.as rfl rfl ?_
  refine XL.nil ?_
  refine XQ.thenN ?_
  refine XC.seq ?_
  refine XC.block ?_
  refine XC.seq ?_
  refine XC.reg ?_
  refine XL.mv rfl rfl ?_
  refine XL.bin rfl rfl rfl (bNeI) ?_
  refine XL.as rfl rfl ?_
  refine XL.nil ?_
  refine XQ.thenN ?_
  refine XC.condT' rfl (rfl) ?_
  refine XC.seq ?_
  refine XC.reg ?_
  refine XL.mv rfl rfl ?_
  refine XL.as rfl rfl ?_
  refine XL.as rfl rfl ?_
  refine XL.nil ?_
  refine XQ.thenN ?_
  refine XC.ret ?_
  refine XQ.blkR ?_
  refine XQ.thenR ?_
  exact XQ.ret (.inl rfl) rfl (rC (resT rfl) <| rC (resT rfl) <| rN) [] (⟨rfl, rfl⟩) ((prm (by repeat constructor)))

theorem core_FS_spot_nil_fn (u g : Int) (v : Value) (hv : OneV v) (now : Int) (id : Int) (s : List UInt8) : Does P F_core_FS_spot [nilP, .agg (cv u g v now).toArray, I id, S s] [] fun r cs => r = .tuple #[nilP, I 70] ∧ cs = [] := by
  refine Does.mk (N := 25) fn_core_FS_spot rfl rfl rfl (fun F => ?_)
  simp only [List.cons_append, List.nil_append]
  refine XC.seq ?_
  refine XC.reg ?_
  refine XL.bx rfl rfl rfl (fun b5 => ?_)
  refine XL.as rfl rfl ?_
  refine XL.as rfl rfl ?_
  refine XL.nil ?_
  refine XQ.thenN ?_
  refine XC.seq ?_
  refine XC.reg ?_
  refine XL.mv rfl rfl ?_
  refine XL.ldM g_core_Caller rfl (by rfl) rfl ?_
  refine XL.mv rfl rfl ?_
  refine XL.call hb_core_FS_dir rfl rfl (core_FS_dir_nil_fn u g v hv now id 3) (tn) ?_
  rintro _ _ ⟨rfl, rfl⟩
  simp only [List.cons_append, List.nil_append]
  refine XL.mv rfl rfl ?_
  refine XL.ex rfl rfl rfl ?_
  refine XL.ex rfl rfl rfl ?_
  refine XL.as rfl rfl ?_
  refine XL.as rfl rfl ?_
  refine XL.nil ?_
  refine XQ.thenN ?_
  refine XC.seq ?_
  refine XC.seq ?_
  refine XC.reg ?_
  refine XL.mv rfl rfl ?_
  refine XL.bin rfl rfl rfl (bEqI) ?_
  refine XL.nil ?_
  refine XQ.thenN ?_
  refine XC.condF' rfl (rfl) ?_
  refine XC.skip ?_
  refine XQ.thenN ?_
  refine XC.seq ?_
  refine XC.reg ?_
  refine XL.mv rfl rfl ?_
  refine XL.mv rfl rfl ?_
  refine XL.as rfl rfl ?_
  refine XL.as rfl rfl ?_
  refine XL.nil ?_
  refine XQ.thenN ?_
  refine XC.ret ?_
  exact XQ.ret (.inl rfl) rfl (rC (resT rfl) <| rC (resT rfl) <| rN) [] (⟨rfl, rfl⟩) ((prm (by repeat constructor)))

theorem core_FS_named_nil_fn (u g : Int) (v : Value) (hv : OneV v) (now : Int) (id : Int) (s : List UInt8) : Does P F_core_FS_named [nilP, .agg (cv u g v now).toArray, I id, S s] [] fun r cs => r = .tuple #[nilP, nilP, I 70] ∧ cs = [] := by
  refine Does.mk (N := 45) fn_core_FS_named rfl rfl rfl (fun F => ?_)
  simp only [List.cons_append, List.nil_append]
  refine XC.seq ?_
  refine XC.reg ?_
  refine XL.bx rfl rfl rfl (fun b5 => ?_)
  refine XL.as rfl rfl ?_
  refine XL.as rfl rfl ?_
  refine XL.as rfl rfl ?_
  refine XL.nil ?_
  refine XQ.thenN ?_
  refine XC.seq ?_
  refine XC.reg ?_
  refine XL.mv rfl rfl ?_
  refine XL.ldM g_core_Caller rfl (by rfl) rfl ?_
  refine XL.mv rfl rfl ?_
  refine XL.mv rfl rfl ?_
  refine XL.call hb_core_FS_spot rfl rfl (core_FS_spot_nil_fn u g v hv now id s) (tn) ?_
  rintro _ _ ⟨rfl, rfl⟩
  simp only [List.cons_append, List.nil_append]
  refine XL.mv rfl rfl ?_
  refine XL.ex rfl rfl rfl ?_
  refine XL.ex rfl rfl rfl ?_
  refine XL.as rfl rfl ?_
  refine XL.as rfl rfl ?_
  refine XL.nil ?_
  refine XQ.thenN ?_
  refine XC.seq ?_
  refine XC.seq ?_
  refine XC.reg ?_
  refine XL.mv rfl rfl ?_
  refine XL.bin rfl rfl rfl (bNeI) ?_
  refine XL.nil ?_
  refine XQ.thenN ?_
  refine XC.condT' rfl (rfl) ?_
  refine XC.seq ?_
  refine XC.reg ?_
  refine XL.mv rfl rfl ?_
  refine XL.as rfl rfl ?_
  refine XL.as rfl rfl ?_
  refine XL.as rfl rfl ?_
  refine XL.nil ?_
  refine XQ.thenN ?_
  refine XC.ret ?_
  refine XQ.thenR ?_
  exact XQ.ret (.inl rfl) rfl (rC (resT rfl) <| rC (resT rfl) <| rC (resT rfl) <| rN) [] (⟨rfl, rfl⟩) ((prm (by repeat constructor)))

theorem core_FS_Lookup_nil_fn (u g : Int) (v : Value) (hv : OneV v) (now : Int) (id : Int) (s : List UInt8) : Does P F_core_FS_Lookup [nilP, .agg (cv u g v now).toArray, I id, S s] [] fun r cs => r = .tuple #[I 0, I 70] ∧ cs = [] := by
  refine Does.mk (N := 55) fn_core_FS_Lookup rfl rfl rfl (fun F => ?_)
  simp only [List.cons_append, List.nil_append]
  refine XC.seq ?_
  refine XC.reg ?_
  refine XL.bx rfl rfl rfl (fun b5 => ?_)
  refine XL.as rfl rfl ?_
  refine XL.as rfl rfl ?_
  refine XL.nil ?_
  refine XQ.thenN ?_
  refine XC.seq ?_
  refine XC.reg ?_
  refine XL.mv rfl rfl ?_
  refine XL.ldM g_core_Caller rfl (by rfl) rfl ?_
  refine XL.mv rfl rfl ?_
  refine XL.call hb_core_FS_dir rfl rfl (core_FS_dir_nil_fn u g v hv now id 1) (tn) ?_
  rintro _ _ ⟨rfl, rfl⟩
  simp only [List.cons_append, List.nil_append]
  refine XL.mv rfl rfl ?_
  refine XL.ex rfl rfl rfl ?_
  refine XL.ex rfl rfl rfl ?_
  refine XL.as rfl rfl ?_
  refine XL.as rfl rfl ?_
  refine XL.nil ?_
  refine XQ.thenN ?_
  refine XC.seq ?_
  refine XC.block ?_
  refine XC.seq ?_
  refine XC.reg ?_
  refine XL.mv rfl rfl ?_
  refine XL.bin rfl rfl rfl (bNeI) ?_
  refine XL.as rfl rfl ?_
  refine XL.nil ?_
  refine XQ.thenN ?_
  refine XC.condT' rfl (rfl) ?_
  refine XC.seq ?_
  refine XC.reg ?_
  refine XL.mv rfl rfl ?_
  refine XL.as rfl rfl ?_
  refine XL.as rfl rfl ?_
  refine XL.nil ?_
  refine XQ.thenN ?_
  refine XC.ret ?_
  refine XQ.blkR ?_
  refine XQ.thenR ?_
  exact XQ.ret (.inl rfl) rfl (rC (resT rfl) <| rC (resT rfl) <| rN) [] (⟨rfl, rfl⟩) ((prm (by repeat constructor)))

theorem core_FS_Create_nil_fn (u g : Int) (v : Value) (hv : OneV v) (now : Int) (id : Int) (s : List UInt8) : Does P F_core_FS_Create [nilP, .agg (cv u g v now).toArray, I id, S s, I 0, seV false false 0 0, S []] [] fun r cs => r = .tuple #[I 0, I 70] ∧ cs = [] := by
  refine Does.mk (N := 152) fn_core_FS_Create rfl rfl rfl (fun F => ?_)
  simp only [List.cons_append, List.nil_append]
  refine XC.seq ?_
  refine XC.reg ?_
  refine XL.bx rfl rfl rfl (fun b8 => ?_)
  refine XL.bx rfl rfl rfl (fun b12 => ?_)
  refine XL.as rfl rfl ?_
  refine XL.as rfl rfl ?_
  refine XL.nil ?_
  refine XQ.thenN ?_
  refine XC.seq ?_
  refine XC.reg ?_
  refine XL.mv rfl rfl ?_
  refine XL.ldM g_core_Caller rfl (by rfl) rfl ?_
  refine XL.mv rfl rfl ?_
  refine XL.mv rfl rfl ?_
  refine XL.call hb_core_FS_spot rfl rfl (core_FS_spot_nil_fn u g v hv now id s) (tn) ?_
  rintro _ _ ⟨rfl, rfl⟩
  simp only [List.cons_append, List.nil_append]
  refine XL.mv rfl rfl ?_
  refine XL.ex rfl rfl rfl ?_
  refine XL.ex rfl rfl rfl ?_
  refine XL.as rfl rfl ?_
  refine XL.as rfl rfl ?_
  refine XL.nil ?_
  refine XQ.thenN ?_
  refine XC.seq ?_
  refine XC.seq ?_
  refine XC.reg ?_
  refine XL.mv rfl rfl ?_
  refine XL.bin rfl rfl rfl (bNeI) ?_
  refine XL.nil ?_
  refine XQ.thenN ?_
  refine XC.condT' rfl (rfl) ?_
  refine XC.seq ?_
  refine XC.reg ?_
  refine XL.mv rfl rfl ?_
  refine XL.as rfl rfl ?_
  refine XL.as rfl rfl ?_
  refine XL.nil ?_
  refine XQ.thenN ?_
  refine XC.ret ?_
  refine XQ.thenR ?_
  exact XQ.ret (.inl rfl) rfl (rC (resT rfl) <| rC (resT rfl) <| rN) [] (⟨rfl, rfl⟩) ((prm (by repeat constructor)))

theorem core_FS_Readdir_nil_fn (u g : Int) (v : Value) (hv : OneV v) (now : Int) (id : Int) : Does P F_core_FS_Readdir [nilP, .agg (cv u g v now).toArray, I id, I 0, I 1] [] fun r cs => r = .tuple #[nilS, B false, I 70] ∧ cs = [] := by
  refine Does.mk (N := 107) fn_core_FS_Readdir rfl rfl rfl (fun F => ?_)
  simp only [List.cons_append, List.nil_append]
  refine XC.seq ?_
  refine XC.reg ?_
  refine XL.bx rfl rfl rfl (fun b6 => ?_)
  refine XL.as rfl rfl ?_
  refine XL.as rfl rfl ?_
  refine XL.as rfl rfl ?_
  refine XL.nil ?_
  refine XQ.thenN ?_
  refine XC.seq ?_
  refine XC.reg ?_
  refine XL.mv rfl rfl ?_
  refine XL.ldM g_core_Caller rfl (by rfl) rfl ?_
  refine XL.mv rfl rfl ?_
  refine XL.call hb_core_FS_dir rfl rfl (core_FS_dir_nil_fn u g v hv now id 4) (tn) ?_
  rintro _ _ ⟨rfl, rfl⟩
  simp only [List.cons_append, List.nil_append]
  refine XL.mv rfl rfl ?_
  refine XL.ex rfl rfl rfl ?_
  refine XL.ex rfl rfl rfl ?_
  refine XL.as rfl rfl ?_
  refine XL.as rfl rfl ?_
  refine XL.nil ?_
  refine XQ.thenN ?_
  refine XC.seq ?_
  refine XC.block ?_
  refine XC.seq ?_
  refine XC.reg ?_
  refine XL.mv rfl rfl ?_
  refine XL.bin rfl rfl rfl (bNeI) ?_
  refine XL.as rfl rfl ?_
  refine XL.nil ?_
  refine XQ.thenN ?_
  refine XC.condT' rfl (rfl) ?_
  refine XC.seq ?_
  refine XC.reg ?_
  refine XL.mv rfl rfl ?_
  refine XL.as rfl rfl ?_
  refine XL.as rfl rfl ?_
  refine XL.as rfl rfl ?_
  refine XL.nil ?_
  refine XQ.thenN ?_
  refine XC.ret ?_
  refine XQ.blkR ?_
  refine XQ.thenR ?_
  exact XQ.ret (.inl rfl) rfl (rC (resT rfl) <| rC (resT rfl) <| rC (resT rfl) <| rN) [] (⟨rfl, rfl⟩) ((prm (by repeat constructor)))

theorem core_FS_Remove_nil_fn (u g : Int) (v : Value) (hv : OneV v) (now : Int) (id : Int) (s : List UInt8) : Does P F_core_FS_Remove [nilP, .agg (cv u g v now).toArray, I id, S s] [] fun r cs => r = I 70 ∧ cs = [] := by
  refine Does.mk (N := 38) fn_core_FS_Remove rfl rfl rfl (fun F => ?_)
  simp only [List.cons_append, List.nil_append]
  refine XC.seq ?_
  refine XC.reg ?_
  refine XL.bx rfl rfl rfl (fun b5 => ?_)
  refine XL.as rfl rfl ?_
  refine XL.nil ?_
  refine XQ.thenN ?_
  refine XC.seq ?_
  refine XC.reg ?_
  refine XL.mv rfl rfl ?_
  refine XL.ldM g_core_Caller rfl (by rfl) rfl ?_
  refine XL.mv rfl rfl ?_
  refine XL.mv rfl rfl ?_
  refine XL.call hb_core_FS_named rfl rfl (core_FS_named_nil_fn u g v hv now id s) (tn) ?_
  rintro _ _ ⟨rfl, rfl⟩
  simp only [List.cons_append, List.nil_append]
  refine XL.mv rfl rfl ?_
  refine XL.ex rfl rfl rfl ?_
  refine XL.ex rfl rfl rfl ?_
  refine XL.ex rfl rfl rfl ?_
  refine XL.as rfl rfl ?_
  refine XL.as rfl rfl ?_
  refine XL.as rfl rfl ?_
  refine XL.nil ?_
  refine XQ.thenN ?_
  refine XC.seq ?_
  refine XC.block ?_
  refine XC.seq ?_
  refine XC.reg ?_
  refine XL.mv rfl rfl ?_
  refine XL.bin rfl rfl rfl (bNeI) ?_
  refine XL.as rfl rfl ?_
  refine XL.nil ?_
  refine XQ.thenN ?_
  refine XC.condT' rfl (rfl) ?_
  refine XC.seq ?_
  refine XC.reg ?_
  refine XL.mv rfl rfl ?_
  refine XL.as rfl rfl ?_
  refine XL.nil ?_
  refine XQ.thenN ?_
  refine XC.ret ?_
  refine XQ.blkR ?_
  refine XQ.thenR ?_
  exact XQ.ret (.inl rfl) rfl (rC (resT rfl) <| rN) [] (⟨rfl, rfl⟩) ((prm (by repeat constructor)))

theorem core_FS_Write_nil_fn (u g : Int) (v : Value) (hv : OneV v) (now : Int) (id : Int) (s : List UInt8) : Does P F_core_FS_Write [nilP, .agg (cv u g v now).toArray, I id, I 0, S s] [] fun r cs => r = I 70 ∧ cs = [] := by
  refine Does.mk (N := 81) fn_core_FS_Write rfl rfl rfl (fun F => ?_)
  simp only [List.cons_append, List.nil_append]
  refine XC.seq ?_
  refine XC.reg ?_
  refine XL.bx rfl rfl rfl (fun b6 => ?_)
  refine XL.as rfl rfl ?_
  refine XL.nil ?_
  refine XQ.thenN ?_
  refine XC.seq ?_
  refine XC.reg ?_
  refine XL.mv rfl rfl ?_
  refine XL.ldM g_core_Caller rfl (by rfl) rfl ?_
  refine XL.mv rfl rfl ?_
  refine XL.call hb_core_FS_file rfl rfl (core_FS_file_nil_fn u g v hv now id 2) (tn) ?_
  rintro _ _ ⟨rfl, rfl⟩
  simp only [List.cons_append, List.nil_append]
  refine XL.mv rfl rfl ?_
  refine XL.ex rfl rfl rfl ?_
  refine XL.ex rfl rfl rfl ?_
  refine XL.as rfl rfl ?_
  refine XL.as rfl rfl ?_
  refine XL.nil ?_
  refine XQ.thenN ?_
  refine XC.seq ?_
  refine XC.block ?_
  refine XC.seq ?_
  refine XC.reg ?_
  refine XL.mv rfl rfl ?_
  refine XL.bin rfl rfl rfl (bNeI) ?_
  refine XL.as rfl rfl ?_
  refine XL.nil ?_
  refine XQ.thenN ?_
  refine XC.condT' rfl (rfl) ?_
  refine XC.seq ?_
  refine XC.reg ?_
  refine XL.mv rfl rfl ?_
  refine XL.as rfl rfl ?_
  refine XL.nil ?_
  refine XQ.thenN ?_
  refine XC.ret ?_
  refine XQ.blkR ?_
  refine XQ.thenR ?_
  exact XQ.ret (.inl rfl) rfl (rC (resT rfl) <| rN) [] (⟨rfl, rfl⟩) ((prm (by repeat constructor)))

theorem core_FS_Clone_nil_fn : Does P F_core_FS_Clone [nilP] [] fun r cs => r = nilP ∧ cs = [] := by
  refine Does.mk (N := 46) fn_core_FS_Clone rfl rfl rfl (fun F => ?_)
  simp only [List.cons_append, List.nil_append]
  refine XC.seq ?_
  refine XC.reg ?_
  refine XL.as rfl rfl ?_
  refine XL.nil ?_
  refine XQ.thenN ?_
  refine XC.seq ?_
  refine XC.seq ?_
  refine XC.reg ?_
  refine XL.mv rfl rfl ?_
  refine XL.bin rfl rfl rfl (bEqPT u_P_core_FS) ?_
  refine XL.nil ?_
  refine XQ.thenN ?_
  refine XC.condT' rfl (rfl) ?_
  refine XC.seq ?_
  refine XC.reg ?_
  refine XL.as rfl rfl ?_
  refine XL.nil ?_
  refine XQ.thenN ?_
  refine XC.ret ?_
  refine XQ.thenR ?_
  exact XQ.ret (.inl rfl) rfl (rC (resT rfl) <| rN) [] (⟨rfl, rfl⟩) ((prm (by repeat constructor)))

theorem core_FS_IDs_nil_fn : Does P F_core_FS_IDs [nilP] [] fun r cs => r = nilS ∧ cs = [] := by
  refine Does.mk (N := 11) fn_core_FS_IDs rfl rfl rfl (fun F => ?_)
  simp only [List.cons_append, List.nil_append]
  refine XC.seq ?_
  refine XC.reg ?_
  refine XL.as rfl rfl ?_
  refine XL.nil ?_
  refine XQ.thenN ?_
  refine XC.seq ?_
  refine XC.seq ?_
  refine XC.reg ?_
  refine XL.mv rfl rfl ?_
  refine XL.bin rfl rfl rfl (bEqPT u_P_core_FS) ?_
  refine XL.nil ?_
  refine XQ.thenN ?_
  refine XC.condT' rfl (rfl) ?_
  refine XC.seq ?_
  refine XC.reg ?_
  refine XL.as rfl rfl ?_
  refine XL.nil ?_
  refine XQ.thenN ?_
  refine XC.ret ?_
  refine XQ.thenR ?_
  exact XQ.ret (.inl rfl) rfl (rC (resT rfl) <| rN) [] (⟨rfl, rfl⟩) ((prm (by repeat constructor)))

theorem core_FS_Met_nil_fn : Does P F_core_FS_Met [nilP] [] fun r cs => r = nilS ∧ cs = [] := by
  refine Does.mk (N := 17) fn_core_FS_Met rfl rfl rfl (fun F => ?_)
  simp only [List.cons_append, List.nil_append]
  refine XC.seq ?_
  refine XC.reg ?_
  refine XL.as rfl rfl ?_
  refine XL.nil ?_
  refine XQ.thenN ?_
  refine XC.seq ?_
  refine XC.seq ?_
  refine XC.reg ?_
  refine XL.mv rfl rfl ?_
  refine XL.bin rfl rfl rfl (bEqPT u_P_core_FS) ?_
  refine XL.nil ?_
  refine XQ.thenN ?_
  refine XC.condT' rfl (rfl) ?_
  refine XC.seq ?_
  refine XC.reg ?_
  refine XL.as rfl rfl ?_
  refine XL.nil ?_
  refine XQ.thenN ?_
  refine XC.ret ?_
  refine XQ.thenR ?_
  exact XQ.ret (.inl rfl) rfl (rC (resT rfl) <| rN) [] (⟨rfl, rfl⟩) ((prm (by repeat constructor)))

theorem core_FS_Last_nil_fn (n : Int) : Does P F_core_FS_Last [nilP, I n] [] fun r cs => r = I 0 ∧ cs = [] := by
  refine Does.mk (N := 20) fn_core_FS_Last rfl rfl rfl (fun F => ?_)
  simp only [List.cons_append, List.nil_append]
  refine XC.seq ?_
  refine XC.reg ?_
  refine XL.as rfl rfl ?_
  refine XL.nil ?_
  refine XQ.thenN ?_
  refine XC.seq ?_
  refine XC.seq ?_
  refine XC.reg ?_
  refine XL.mv rfl rfl ?_
  refine XL.bin rfl rfl rfl (bEqPT u_P_core_FS) ?_
  refine XL.nil ?_
  refine XQ.thenN ?_
  refine XC.condT' rfl (rfl) ?_
  refine XC.seq ?_
  refine XC.reg ?_
  refine XL.as rfl rfl ?_
  refine XL.nil ?_
  refine XQ.thenN ?_
  refine XC.ret ?_
  refine XQ.thenR ?_
  exact XQ.ret (.inl rfl) rfl (rC (resT rfl) <| rN) [] (⟨rfl, rfl⟩) ((prm (by repeat constructor)))

@[reducible] def ndz : List Value := [I 0, I 0, I 0, I 0, I 0, I 0, I 0, I 0, I 0, I 0, I 0, I 0, I 0, I 0, I 0, I 0, I 0, S [], S [], I 0, nilP]

theorem core_FS_Node_nil_fn (id : Int) : Does P F_core_FS_Node [nilP, I id] [] fun r cs => r = .tuple #[.agg ndz.toArray, B false] ∧ cs = [] := by
  refine Does.mk (N := 32) fn_core_FS_Node rfl rfl rfl (fun F => ?_)
  simp only [List.cons_append, List.nil_append]
  refine XC.seq ?_
  refine XC.reg ?_
  refine XL.al z_core_Node rfl (fun b4 => ?_)
  refine XL.as rfl rfl ?_
  refine XL.nil ?_
  refine XQ.thenN ?_
  refine XC.seq ?_
  refine XC.seq ?_
  refine XC.reg ?_
  refine XL.mv rfl rfl ?_
  refine XL.bin rfl rfl rfl (bEqPT u_P_core_FS) ?_
  refine XL.mv rfl rfl ?_
  refine XL.re 9 (u := .bool true) rfl (rfl) ?_
  refine XL.no rfl rfl ?_
  refine XL.no rfl rfl ?_
  refine XL.no rfl rfl ?_
  refine XL.no rfl rfl ?_
  refine XL.no rfl rfl ?_
  refine XL.no rfl rfl ?_
  refine XL.no rfl rfl ?_
  refine XL.pkT rfl rfl rfl ?_
  refine XL.nil ?_
  refine XQ.thenN ?_
  refine XC.condT' rfl (rfl) ?_
  refine XC.seq ?_
  refine XC.reg ?_
  refine XL.bd z_core_Node p_core_Node rfl rfl ?_
  refine XL.stM g_core_Node rfl rfl rfl (by rfl) rfl ?_
  refine XL.as rfl rfl ?_
  refine XL.nil ?_
  refine XQ.thenN ?_
  refine XC.ret ?_
  refine XQ.thenR ?_
  exact XQ.ret (.inl rfl) rfl (rC (resN g_core_Node rfl rfl rfl) <| rC (resT rfl) <| rN) [] (⟨rfl, rfl⟩) ((prm (by repeat constructor)))

theorem core_FS_Load_nil_fn : Does P F_core_FS_Load [nilP, .agg ndz.toArray] [] fun r cs => r = .tuple #[] ∧ cs = [] := by
  refine Does.mk (N := 28) fn_core_FS_Load rfl rfl rfl (fun F => ?_)
  simp only [List.cons_append, List.nil_append]
  refine XC.seq ?_
  refine XC.reg ?_
  refine XL.bx rfl rfl rfl (fun b3 => ?_)
  refine XL.nil ?_
  refine XQ.thenN ?_
  refine XC.seq ?_
  refine XC.reg ?_
  refine XL.mv rfl rfl ?_
  refine XL.bin rfl rfl rfl (bNePT u_P_core_FS) ?_
  refine XL.nil ?_
  refine XQ.thenN ?_
  refine XC.condF' rfl (rfl) ?_
  refine XC.skip ?_
  exact XQ.ret (.inr rfl) rfl (rN) [] (⟨rfl, rfl⟩) ((prm (by repeat constructor)))
end Go.Proofs.YteeiccjglmehcaaGreat
