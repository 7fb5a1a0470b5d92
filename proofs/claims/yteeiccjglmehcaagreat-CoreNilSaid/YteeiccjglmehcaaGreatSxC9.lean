/-
  Package core: files made, looked at. Printed by mk.py out of spec_core9.py.
-/
import Derived.Test.YteeiccjglmehcaaGreatSxC8
namespace Go.Proofs.YteeiccjglmehcaaGreat
open Go Go.Sx

set_option synthInstance.maxSize 4000
set_option synthInstance.maxHeartbeats 200000

theorem core_FS_Create_new0_fn (f : Nat) (vm vt : Value) (last : Int) (es : List (Int × Value)) (b d : Nat) (n : Nd) (s : List UInt8) (hl : 0 ≤ last ∧ last ≤ 1000) (id : Int) (hb : getM es id = some (pt b)) (hk : n.kind = 2) (now : Int) (verf : List UInt8) (hck : Does P F_name_Check [S s] [] fun u cs => u = I 0 ∧ cs = []) : Does P F_core_FS_Create [pt f, clV now, I id, S s, I 0, seV false false 0 0, S verf] [fsc f vm vt last, mapC vm encKI es, metC vt, ndc b n (pt d), dir0 d] fun u cs => ∃ x, u = .tuple #[I (last + 1), I 0] ∧ cs = [fsc f vm vt (last + 1), mapC vm encKI (setM es (last + 1) (pt x)), metC vt, ndc b (n.chg now) (pt d), dir1 d s (last + 1), ndc x (newN 1 420 1 (last + 1) now [] 0) nilP] := by
  refine Does.mk (N := 152) fn_core_FS_Create rfl rfl rfl (fun F => ?_)
  simp only [List.cons_append, List.nil_append]
  refine XC.seq ?_
  refine XC.reg ?_
  refine XL.bx rfl rfl rfl (fun b8 => ?_)
  refine XL.bx rfl rfl rfl (fun b12 => ?_)
  refine XL.as rfl rfl ?_
  refine XL.as rfl rfl ?_
  refine XL.nil ?_
  refine XQ.thenN ?_
  refine XC.seq ?_
  refine XC.reg ?_
  refine XL.mv rfl rfl ?_
  refine XL.ldM g_core_Caller rfl (by rfl) rfl ?_
  refine XL.mv rfl rfl ?_
  refine XL.mv rfl rfl ?_
  refine XL.call hb_core_FS_spot rfl rfl (core_FS_spot_fn f vm vt last es id b hb n (pt d) hk now s 0 hck) (Tk.take (by repeat constructor)) ?_
  rintro _ _ ⟨rfl, rfl⟩
  simp only [List.cons_append, List.nil_append]
  refine XL.mv rfl rfl ?_
  refine XL.ex rfl rfl rfl ?_
  refine XL.ex rfl rfl rfl ?_
  refine XL.as rfl rfl ?_
  refine XL.as rfl rfl ?_
  refine XL.nil ?_
  refine XQ.thenN ?_
  refine XC.seq ?_
  refine XC.seq ?_
  refine XC.reg ?_
  refine XL.mv rfl rfl ?_
  refine XL.bin rfl rfl rfl (bNeI) ?_
  refine XL.nil ?_
  refine XQ.thenN ?_
  refine XC.condF' rfl (rfl) ?_
  refine XC.skip ?_
  refine XQ.thenN ?_
  refine XC.seq ?_
  refine XC.seq ?_
  refine XC.reg ?_
  refine XL.mv rfl rfl ?_
  refine XL.bin rfl rfl rfl (bLss) ?_
  refine XL.mv rfl rfl ?_
  refine XL.re 38 (u := .bool false) rfl (rfl) ?_
  refine XL.mv rfl rfl ?_
  refine XL.bin rfl rfl rfl (bGtr) ?_
  refine XL.pkF rfl rfl rfl ?_
  refine XL.nil ?_
  refine XQ.thenN ?_
  refine XC.condF' rfl (rfl) ?_
  refine XC.skip ?_
  refine XQ.thenN ?_
  refine XC.seq ?_
  refine XC.seq ?_
  refine XC.reg ?_
  refine XL.mv rfl rfl ?_
  refine XL.bin rfl rfl rfl (bEqI) ?_
  refine XL.nil ?_
  refine XQ.thenN ?_
  refine XC.condF' rfl (rfl) ?_
  refine XC.reg ?_
  refine XL.as rfl rfl ?_
  refine XL.nil ?_
  refine XQ.thenN ?_
  refine XC.seq ?_
  refine XC.seq ?_
  refine XC.reg ?_
  refine XL.mv rfl rfl ?_
  refine XL.ncP rfl rfl ?_
  refine XL.fa fo_core_Node_4 rfl rfl ?_
  refine XL.ld o_P_dir_Dir rfl (by rfl) rfl ?_
  refine XL.mv rfl rfl ?_
  refine XL.call hb_dir_Dir_Get rfl rfl (dir_Dir_Get_none_fn d s) (Tk.take (by repeat constructor)) ?_
  rintro _ _ ⟨rfl, rfl⟩
  simp only [List.cons_append, List.nil_append]
  refine XL.mv rfl rfl ?_
  refine XL.ex rfl rfl rfl ?_
  refine XL.ex rfl rfl rfl ?_
  refine XL.al z_dir_Entry rfl (fun b18 => ?_)
  refine XL.stM g_dir_Entry rfl rfl rfl (by rfl) rfl ?_
  refine XL.as rfl rfl ?_
  refine XL.nil ?_
  refine XQ.thenN ?_
  refine XC.seq ?_
  refine XC.reg ?_
  refine XL.mv rfl rfl ?_
  refine XL.nil ?_
  refine XQ.thenN ?_
  refine XC.condF' rfl (rfl) ?_
  refine XC.skip ?_
  refine XQ.thenN ?_
  refine XC.seq ?_
  refine XC.reg ?_
  refine XL.bd z_attr_Attr p_attr_Attr rfl rfl ?_
  refine XL.mv rfl rfl ?_
  refine XL.bd z_core_Node p_core_Node rfl rfl ?_
  refine XL.al z_core_Node rfl (fun b23 => ?_)
  refine XL.stM g_core_Node rfl rfl rfl (by rfl) rfl ?_
  refine XL.nil ?_
  refine XQ.thenN ?_
  refine XC.seq ?_
  refine XC.seq ?_
  refine XC.reg ?_
  refine XL.fa fo_attr_Set_3 rfl rfl ?_
  refine XL.ld o_bool rfl (by rfl) rfl ?_
  refine XL.nil ?_
  refine XQ.thenN ?_
  refine XC.condF' rfl (rfl) ?_
  refine XC.skip ?_
  refine XQ.thenN ?_
  refine XC.seq ?_
  refine XC.reg ?_
  refine XL.mv rfl rfl ?_
  refine XL.ldM g_core_Caller rfl (by rfl) rfl ?_
  refine XL.mv rfl rfl ?_
  refine XL.mv rfl rfl ?_
  refine XL.ldM g_core_Node rfl (by rfl) rfl ?_
  refine XL.ldM g_attr_Set rfl (by rfl) rfl ?_
  refine XL.call hb_core_FS_add rfl rfl (core_FS_add_file_fn f vm vt last es b d n s hl now 420 0 0 [] hck) (Tk.take (by repeat constructor)) ?_
  rintro _ _ ⟨x, rfl, rfl⟩
  simp only [List.cons_append, List.nil_append]
  refine XL.as rfl rfl ?_
  refine XL.as rfl rfl ?_
  refine XL.nil ?_
  refine XQ.thenN ?_
  refine XC.ret ?_
  exact XQ.ret (.inl rfl) rfl (rC (resT rfl) <| rC (resT rfl) <| rN) [fsc f vm vt (last + 1), mapC vm encKI (setM es (last + 1) (pt x)), metC vt, ndc b (n.chg now) (pt d), dir1 d s (last + 1), ndc x (newN 1 420 1 (last + 1) now [] 0) nilP] (⟨x, rfl, rfl⟩) ((prm (by repeat constructor)))

theorem core_FS_Create_new2_fn (f : Nat) (vm vt : Value) (last : Int) (es : List (Int × Value)) (b d : Nat) (n : Nd) (s : List UInt8) (hl : 0 ≤ last ∧ last ≤ 1000) (id : Int) (hb : getM es id = some (pt b)) (hk : n.kind = 2) (now : Int) (verf : List UInt8) (hck : Does P F_name_Check [S s] [] fun u cs => u = I 0 ∧ cs = []) : Does P F_core_FS_Create [pt f, clV now, I id, S s, I 2, seV false false 0 0, S verf] [fsc f vm vt last, mapC vm encKI es, metC vt, ndc b n (pt d), dir0 d] fun u cs => ∃ x, u = .tuple #[I (last + 1), I 0] ∧ cs = [fsc f vm vt (last + 1), mapC vm encKI (setM es (last + 1) (pt x)), metC vt, ndc b (n.chg now) (pt d), dir1 d s (last + 1), ndc x (newN 1 420 1 (last + 1) now verf 0) nilP] := by
  refine Does.mk (N := 152) fn_core_FS_Create rfl rfl rfl (fun F => ?_)
  simp only [List.cons_append, List.nil_append]
  refine XC.seq ?_
  refine XC.reg ?_
  refine XL.bx rfl rfl rfl (fun b8 => ?_)
  refine XL.bx rfl rfl rfl (fun b12 => ?_)
  refine XL.as rfl rfl ?_
  refine XL.as rfl rfl ?_
  refine XL.nil ?_
  refine XQ.thenN ?_
  refine XC.seq ?_
  refine XC.reg ?_
  refine XL.mv rfl rfl ?_
  refine XL.ldM g_core_Caller rfl (by rfl) rfl ?_
  refine XL.mv rfl rfl ?_
  refine XL.mv rfl rfl ?_
  refine XL.call hb_core_FS_spot rfl rfl (core_FS_spot_fn f vm vt last es id b hb n (pt d) hk now s 0 hck) (Tk.take (by repeat constructor)) ?_
  rintro _ _ ⟨rfl, rfl⟩
  simp only [List.cons_append, List.nil_append]
  refine XL.mv rfl rfl ?_
  refine XL.ex rfl rfl rfl ?_
  refine XL.ex rfl rfl rfl ?_
  refine XL.as rfl rfl ?_
  refine XL.as rfl rfl ?_
  refine XL.nil ?_
  refine XQ.thenN ?_
  refine XC.seq ?_
  refine XC.seq ?_
  refine XC.reg ?_
  refine XL.mv rfl rfl ?_
  refine XL.bin rfl rfl rfl (bNeI) ?_
  refine XL.nil ?_
  refine XQ.thenN ?_
  refine XC.condF' rfl (rfl) ?_
  refine XC.skip ?_
  refine XQ.thenN ?_
  refine XC.seq ?_
  refine XC.seq ?_
  refine XC.reg ?_
  refine XL.mv rfl rfl ?_
  refine XL.bin rfl rfl rfl (bLss) ?_
  refine XL.mv rfl rfl ?_
  refine XL.re 38 (u := .bool false) rfl (rfl) ?_
  refine XL.mv rfl rfl ?_
  refine XL.bin rfl rfl rfl (bGtr) ?_
  refine XL.pkF rfl rfl rfl ?_
  refine XL.nil ?_
  refine XQ.thenN ?_
  refine XC.condF' rfl (rfl) ?_
  refine XC.skip ?_
  refine XQ.thenN ?_
  refine XC.seq ?_
  refine XC.seq ?_
  refine XC.reg ?_
  refine XL.mv rfl rfl ?_
  refine XL.bin rfl rfl rfl (bEqI) ?_
  refine XL.nil ?_
  refine XQ.thenN ?_
  refine XC.condT' rfl (rfl) ?_
  refine XC.reg ?_
  refine XL.bd z_attr_Set p_attr_Set rfl rfl ?_
  refine XL.stM g_attr_Set rfl rfl rfl (by rfl) rfl ?_
  refine XL.nil ?_
  refine XQ.thenN ?_
  refine XC.seq ?_
  refine XC.seq ?_
  refine XC.reg ?_
  refine XL.mv rfl rfl ?_
  refine XL.ncP rfl rfl ?_
  refine XL.fa fo_core_Node_4 rfl rfl ?_
  refine XL.ld o_P_dir_Dir rfl (by rfl) rfl ?_
  refine XL.mv rfl rfl ?_
  refine XL.call hb_dir_Dir_Get rfl rfl (dir_Dir_Get_none_fn d s) (Tk.take (by repeat constructor)) ?_
  rintro _ _ ⟨rfl, rfl⟩
  simp only [List.cons_append, List.nil_append]
  refine XL.mv rfl rfl ?_
  refine XL.ex rfl rfl rfl ?_
  refine XL.ex rfl rfl rfl ?_
  refine XL.al z_dir_Entry rfl (fun b18 => ?_)
  refine XL.stM g_dir_Entry rfl rfl rfl (by rfl) rfl ?_
  refine XL.as rfl rfl ?_
  refine XL.nil ?_
  refine XQ.thenN ?_
  refine XC.seq ?_
  refine XC.reg ?_
  refine XL.mv rfl rfl ?_
  refine XL.nil ?_
  refine XQ.thenN ?_
  refine XC.condF' rfl (rfl) ?_
  refine XC.skip ?_
  refine XQ.thenN ?_
  refine XC.seq ?_
  refine XC.reg ?_
  refine XL.bd z_attr_Attr p_attr_Attr rfl rfl ?_
  refine XL.mv rfl rfl ?_
  refine XL.bd z_core_Node p_core_Node rfl rfl ?_
  refine XL.al z_core_Node rfl (fun b23 => ?_)
  refine XL.stM g_core_Node rfl rfl rfl (by rfl) rfl ?_
  refine XL.nil ?_
  refine XQ.thenN ?_
  refine XC.seq ?_
  refine XC.seq ?_
  refine XC.reg ?_
  refine XL.fa fo_attr_Set_3 rfl rfl ?_
  refine XL.ld o_bool rfl (by rfl) rfl ?_
  refine XL.nil ?_
  refine XQ.thenN ?_
  refine XC.condF' rfl (rfl) ?_
  refine XC.skip ?_
  refine XQ.thenN ?_
  refine XC.seq ?_
  refine XC.reg ?_
  refine XL.mv rfl rfl ?_
  refine XL.ldM g_core_Caller rfl (by rfl) rfl ?_
  refine XL.mv rfl rfl ?_
  refine XL.mv rfl rfl ?_
  refine XL.ldM g_core_Node rfl (by rfl) rfl ?_
  refine XL.ldM g_attr_Set rfl (by rfl) rfl ?_
  refine XL.call hb_core_FS_add rfl rfl (core_FS_add_file_fn f vm vt last es b d n s hl now 420 0 0 verf hck) (Tk.take (by repeat constructor)) ?_
  rintro _ _ ⟨x, rfl, rfl⟩
  simp only [List.cons_append, List.nil_append]
  refine XL.as rfl rfl ?_
  refine XL.as rfl rfl ?_
  refine XL.nil ?_
  refine XQ.thenN ?_
  refine XC.ret ?_
  exact XQ.ret (.inl rfl) rfl (rC (resT rfl) <| rC (resT rfl) <| rN) [fsc f vm vt (last + 1), mapC vm encKI (setM es (last + 1) (pt x)), metC vt, ndc b (n.chg now) (pt d), dir1 d s (last + 1), ndc x (newN 1 420 1 (last + 1) now verf 0) nilP] (⟨x, rfl, rfl⟩) ((prm (by repeat constructor)))

theorem core_FS_Make_dir_fn (f : Nat) (vm vt : Value) (last : Int) (es : List (Int × Value)) (b d : Nat) (n : Nd) (s : List UInt8) (hl : 0 ≤ last ∧ last ≤ 1000) (id : Int) (hb : getM es id = some (pt b)) (hk : n.kind = 2) (now : Int) (hnl : 0 ≤ n.links ∧ n.links ≤ 1000) (hck : Does P F_name_Check [S s] [] fun u cs => u = I 0 ∧ cs = []) : Does P F_core_FS_Make [pt f, clV now, I id, S s, I 2, seV false false 0 0, S [], I 0, I 0] [fsc f vm vt last, mapC vm encKI es, metC vt, ndc b n (pt d), dir0 d] fun u cs => ∃ x y, u = .tuple #[I (last + 1), I 0] ∧ cs = [fsc f vm vt (last + 1), mapC vm encKI (setM es (last + 1) (pt x)), metC vt, ndc b ({ n with links := n.links + 1 }.chg now) (pt d), dir1 d s (last + 1), ndc x (newN 2 493 2 (last + 1) now [] n.id) (pt y), dir0 y] := by
  refine Does.mk (N := 91) fn_core_FS_Make rfl rfl rfl (fun F => ?_)
  simp only [List.cons_append, List.nil_append]
  refine XC.seq ?_
  refine XC.reg ?_
  refine XL.bx rfl rfl rfl (fun b10 => ?_)
  refine XL.bx rfl rfl rfl (fun b14 => ?_)
  refine XL.as rfl rfl ?_
  refine XL.as rfl rfl ?_
  refine XL.nil ?_
  refine XQ.thenN ?_
  refine XC.seq ?_
  refine XC.reg ?_
  refine XL.mv rfl rfl ?_
  refine XL.ldM g_core_Caller rfl (by rfl) rfl ?_
  refine XL.mv rfl rfl ?_
  refine XL.mv rfl rfl ?_
  refine XL.call hb_core_FS_spot rfl rfl (core_FS_spot_fn f vm vt last es id b hb n (pt d) hk now s 0 hck) (Tk.take (by repeat constructor)) ?_
  rintro _ _ ⟨rfl, rfl⟩
  simp only [List.cons_append, List.nil_append]
  refine XL.mv rfl rfl ?_
  refine XL.ex rfl rfl rfl ?_
  refine XL.ex rfl rfl rfl ?_
  refine XL.as rfl rfl ?_
  refine XL.as rfl rfl ?_
  refine XL.nil ?_
  refine XQ.thenN ?_
  refine XC.seq ?_
  refine XC.seq ?_
  refine XC.reg ?_
  refine XL.mv rfl rfl ?_
  refine XL.bin rfl rfl rfl (bNeI) ?_
  refine XL.nil ?_
  refine XQ.thenN ?_
  refine XC.condF' rfl (rfl) ?_
  refine XC.skip ?_
  refine XQ.thenN ?_
  refine XC.seq ?_
  refine XC.seq ?_
  refine XC.reg ?_
  refine XL.mv rfl rfl ?_
  refine XL.ncP rfl rfl ?_
  refine XL.fa fo_core_Node_4 rfl rfl ?_
  refine XL.ld o_P_dir_Dir rfl (by rfl) rfl ?_
  refine XL.mv rfl rfl ?_
  refine XL.call hb_dir_Dir_Get rfl rfl (dir_Dir_Get_none_fn d s) (Tk.take (by repeat constructor)) ?_
  rintro _ _ ⟨rfl, rfl⟩
  simp only [List.cons_append, List.nil_append]
  refine XL.mv rfl rfl ?_
  refine XL.ex rfl rfl rfl ?_
  refine XL.ex rfl rfl rfl ?_
  refine XL.al z_dir_Entry rfl (fun b22 => ?_)
  refine XL.stM g_dir_Entry rfl rfl rfl (by rfl) rfl ?_
  refine XL.as rfl rfl ?_
  refine XL.nil ?_
  refine XQ.thenN ?_
  refine XC.seq ?_
  refine XC.reg ?_
  refine XL.mv rfl rfl ?_
  refine XL.nil ?_
  refine XQ.thenN ?_
  refine XC.condF' rfl (rfl) ?_
  refine XC.skip ?_
  refine XQ.thenN ?_
  refine XC.seq ?_
  refine XC.reg ?_
  refine XL.fa fo_attr_Set_3 rfl rfl ?_
  refine XL.st o_bool rfl rfl rfl ?_
  refine XL.nil ?_
  refine XQ.thenN ?_
  refine XC.seq ?_
  refine XC.reg ?_
  refine XL.mv rfl rfl ?_
  refine XL.bd z_attr_Attr p_attr_Attr rfl rfl ?_
  refine XL.bd z_core_Node p_core_Node rfl rfl ?_
  refine XL.al z_core_Node rfl (fun b24 => ?_)
  refine XL.stM g_core_Node rfl rfl rfl (by rfl) rfl ?_
  refine XL.nil ?_
  refine XQ.thenN ?_
  refine XC.seq ?_
  refine XC.seq ?_
  refine XC.reg ?_
  refine XL.mv rfl rfl ?_
  refine XL.nil ?_
  refine XQ.thenN ?_
  refine XC.block ?_
  refine XC.seq ?_
  refine XC.reg ?_
  refine XL.bin rfl rfl rfl (bEqI) ?_
  refine XL.as rfl rfl ?_
  refine XL.nil ?_
  refine XQ.thenN ?_
  refine XC.condT' rfl (rfl) ?_
  refine XC.reg ?_
  refine XL.fa fo_core_Node_0 rfl rfl ?_
  refine XL.fa fo_attr_Attr_1 rfl rfl ?_
  refine XL.st o_int rfl rfl rfl ?_
  refine XL.nil ?_
  refine XQ.blkN ?_
  refine XQ.thenN ?_
  refine XC.seq ?_
  refine XC.reg ?_
  refine XL.mv rfl rfl ?_
  refine XL.ldM g_core_Caller rfl (by rfl) rfl ?_
  refine XL.mv rfl rfl ?_
  refine XL.mv rfl rfl ?_
  refine XL.ldM g_core_Node rfl (by rfl) rfl ?_
  refine XL.ldM g_attr_Set rfl (by rfl) rfl ?_
  refine XL.call hb_core_FS_add rfl rfl (core_FS_add_dir_fn f vm vt last es b d n s hl now 493 0 0 [] hnl hck) (Tk.take (by repeat constructor)) ?_
  rintro _ _ ⟨x, y, rfl, rfl⟩
  simp only [List.cons_append, List.nil_append]
  refine XL.as rfl rfl ?_
  refine XL.as rfl rfl ?_
  refine XL.nil ?_
  refine XQ.thenN ?_
  refine XC.ret ?_
  exact XQ.ret (.inl rfl) rfl (rC (resT rfl) <| rC (resT rfl) <| rN) [fsc f vm vt (last + 1), mapC vm encKI (setM es (last + 1) (pt x)), metC vt, ndc b ({ n with links := n.links + 1 }.chg now) (pt d), dir1 d s (last + 1), ndc x (newN 2 493 2 (last + 1) now [] n.id) (pt y), dir0 y] (⟨x, y, rfl, rfl⟩) ((prm (by repeat constructor)))
end Go.Proofs.YteeiccjglmehcaaGreat
