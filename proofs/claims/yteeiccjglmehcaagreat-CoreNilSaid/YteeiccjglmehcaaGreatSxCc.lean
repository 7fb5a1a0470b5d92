/-
  coraclelaw13: speaks, CoreGuard. Printed by mk.py out of spec_corec.py.
-/
import Derived.Test.YteeiccjglmehcaaGreatSxCb
namespace Go.Proofs.YteeiccjglmehcaaGreat
open Go Go.Sx

set_option synthInstance.maxSize 4000
set_option synthInstance.maxHeartbeats 200000

theorem coraclelaw13_speaks_fn : Does P F_coraclelaw13_speaks [] [] fun u cs => u = B true ∧ cs = [] := by
  refine Does.mk (N := 57) fn_coraclelaw13_speaks rfl rfl rfl (fun F => ?_)
  simp only [List.cons_append, List.nil_append]
  refine XC.seq ?_
  refine XC.reg ?_
  refine XL.as rfl rfl ?_
  refine XL.nil ?_
  refine XQ.thenN ?_
  refine XC.seq ?_
  refine XC.reg ?_
  refine XL.call hb_core_New rfl rfl (core_New_fn 5) (tn) ?_
  rintro _ _ ⟨f, vm, vt, b, d, rfl, rfl⟩
  simp only [List.cons_append, List.nil_append]
  refine XL.as rfl rfl ?_
  refine XL.nil ?_
  refine XQ.thenN ?_
  refine XC.seq ?_
  refine XC.reg ?_
  refine XL.bd z_core_Caller p_core_Caller rfl rfl ?_
  refine XL.al z_core_Caller rfl (fun b2 => ?_)
  refine XL.stM g_core_Caller rfl rfl rfl (by rfl) rfl ?_
  refine XL.nil ?_
  refine XQ.thenN ?_
  refine XC.seq ?_
  refine XC.reg ?_
  refine XL.mv rfl rfl ?_
  refine XL.ldM g_core_Caller rfl (by rfl) rfl ?_
  refine XL.bd z_attr_Set p_attr_Set rfl rfl ?_
  refine XL.call hb_core_FS_Make rfl rfl (core_FS_Make_dir_fn f vm vt 1 [(1, pt b)] b d (rootN 5) [97] (by decide) 1 rfl rfl 6 (by decide) check_a) (Tk.take (by repeat constructor)) ?_
  rintro _ _ ⟨x, y, rfl, rfl⟩
  simp only [List.cons_append, List.nil_append]
  refine XL.mv rfl rfl ?_
  refine XL.ex rfl rfl rfl ?_
  refine XL.ex rfl rfl rfl ?_
  refine XL.as rfl rfl ?_
  refine XL.as rfl rfl ?_
  refine XL.nil ?_
  refine XQ.thenN ?_
  refine XC.seq ?_
  refine XC.reg ?_
  refine XL.mv rfl rfl ?_
  refine XL.ldM g_core_Caller rfl (by rfl) rfl ?_
  refine XL.mv rfl rfl ?_
  refine XL.bd z_attr_Set p_attr_Set rfl rfl ?_
  refine XL.call hb_core_FS_Create rfl rfl (core_FS_Create_new0_fn f vm vt (1 + 1) (setM [(1, pt b)] (1 + 1) (pt x)) x y (newN 2 493 2 (1 + 1) 6 [] 1) [102] (by decide) (1 + 1) rfl rfl 6 [] check_f) (Tk.take (by repeat constructor)) ?_
  rintro _ _ ⟨x2, rfl, rfl⟩
  simp only [List.cons_append, List.nil_append]
  refine XL.mv rfl rfl ?_
  refine XL.ex rfl rfl rfl ?_
  refine XL.ex rfl rfl rfl ?_
  refine XL.as rfl rfl ?_
  refine XL.as rfl rfl ?_
  refine XL.nil ?_
  refine XQ.thenN ?_
  refine XC.seq ?_
  refine XC.reg ?_
  refine XL.mv rfl rfl ?_
  refine XL.call hb_core_FS_Node rfl rfl (core_FS_Node_dir_fn f vm vt (1 + 1 + 1) (setM (setM [(1, pt b)] (1 + 1) (pt x)) (1 + 1 + 1) (pt x2)) 1 b rfl ({ rootN 5 with links := 2 + 1 }.chg 6) d [97] (1 + 1)) (Tk.take (by repeat constructor)) ?_
  rintro _ _ ⟨⟨x3, rfl⟩, rfl⟩
  simp only [List.cons_append, List.nil_append]
  refine XL.mv rfl rfl ?_
  refine XL.ex rfl rfl rfl ?_
  refine XL.ex rfl rfl rfl ?_
  refine XL.al z_core_Node rfl (fun b7 => ?_)
  refine XL.stM g_core_Node rfl rfl rfl (by rfl) rfl ?_
  refine XL.as rfl rfl ?_
  refine XL.nil ?_
  refine XQ.thenN ?_
  refine XC.seq ?_
  refine XC.reg ?_
  refine XL.mv rfl rfl ?_
  refine XL.bin rfl rfl rfl (bEqI) ?_
  refine XL.mv rfl rfl ?_
  refine XL.re 33 (u := .bool true) rfl (rfl) ?_
  refine XL.mv rfl rfl ?_
  refine XL.bin rfl rfl rfl (bEqI) ?_
  refine XL.pkT rfl rfl rfl ?_
  refine XL.mv rfl rfl ?_
  refine XL.re 37 (u := .bool true) rfl (rfl) ?_
  refine XL.mv rfl rfl ?_
  refine XL.bin rfl rfl rfl (bEqI) ?_
  refine XL.pkT rfl rfl rfl ?_
  refine XL.mv rfl rfl ?_
  refine XL.re 41 (u := .bool true) rfl (rfl) ?_
  refine XL.mv rfl rfl ?_
  refine XL.bin rfl rfl rfl (bEqI) ?_
  refine XL.pkT rfl rfl rfl ?_
  refine XL.mv rfl rfl ?_
  refine XL.re 45 (u := .bool true) rfl (rfl) ?_
  refine XL.fa fo_core_Node_0 rfl rfl ?_
  refine XL.fa fo_attr_Attr_2 rfl rfl ?_
  refine XL.ld o_int rfl (by rfl) rfl ?_
  refine XL.bin rfl rfl rfl (bEqI) ?_
  refine XL.pkT rfl rfl rfl ?_
  refine XL.mv rfl rfl ?_
  refine XL.re 51 (u := .bool true) rfl (rfl) ?_
  refine XL.fa fo_core_Node_0 rfl rfl ?_
  refine XL.fa fo_attr_Attr_5 rfl rfl ?_
  refine XL.ld o_int rfl (by rfl) rfl ?_
  refine XL.bin rfl rfl rfl (bEqI) ?_
  refine XL.pkT rfl rfl rfl ?_
  refine XL.as rfl rfl ?_
  refine XL.nil ?_
  refine XQ.thenN ?_
  refine XC.ret ?_
  exact XQ.ret (.inl rfl) rfl (rC (resT rfl) <| rN) [] (⟨rfl, rfl⟩) ((prm (by repeat constructor)))

theorem coraclelaw13_CoreGuard_no_fn (now gs gn m : Int) (hg : ¬(gs = now ∧ gn = 0)) : Does P F_coraclelaw13_CoreGuard [I now, .agg [I gs, I gn].toArray, I m] [] fun u cs => u = B true ∧ cs = [] := by
  refine Does.mk (N := 83) fn_coraclelaw13_CoreGuard rfl rfl rfl (fun F => ?_)
  simp only [List.cons_append, List.nil_append]
  refine XC.seq ?_
  refine XC.reg ?_
  refine XL.bx rfl rfl rfl (fun b4 => ?_)
  refine XL.as rfl rfl ?_
  refine XL.nil ?_
  refine XQ.thenN ?_
  refine XC.seq ?_
  refine XC.seq ?_
  refine XC.reg ?_
  refine XL.call hb_coraclelaw13_speaks rfl rfl (coraclelaw13_speaks_fn) (tn) ?_
  rintro _ _ ⟨rfl, rfl⟩
  simp only [List.cons_append, List.nil_append]
  refine XL.notT rfl rfl ?_
  refine XL.nil ?_
  refine XQ.thenN ?_
  refine XC.condF' rfl (rfl) ?_
  refine XC.skip ?_
  refine XQ.thenN ?_
  refine XC.seq ?_
  refine XC.drw (.q 0 <| .q 1 <| .q 2 <| .q 3 <| .q 4 <| .e 5 <| .done) mixed (by kernel_rfl) rfl ?_
  refine JP.qq rfl rfl rfl (XL.ixA 0 a_A2_int rfl rfl rfl (by decide) rfl XL.qd) ?_
  refine JP.qq rfl rfl rfl (XL.ld o_int rfl (by rfl) rfl XL.qd) ?_
  refine JP.qq rfl rfl rfl (XL.ixA 1 a_A2_int rfl rfl rfl (by decide) rfl XL.qd) ?_
  refine JP.qq rfl rfl rfl (XL.ld o_int rfl (by rfl) rfl XL.qd) ?_
  refine JP.qq rfl rfl rfl (XL.as rfl rfl XL.qd) ?_
  refine JP.ee rfl ?_
  refine XL.as rfl rfl ?_
  refine XL.ed ?_
  refine JP.done ?_
  refine XQ.thenN ?_
  refine XC.seq ?_
  refine XC.reg ?_
  refine XL.mv rfl rfl ?_
  refine XL.call hb_core_New rfl rfl (core_New_fn now) (tn) ?_
  rintro _ _ ⟨f, vm, vt, b, d, rfl, rfl⟩
  simp only [List.cons_append, List.nil_append]
  refine XL.as rfl rfl ?_
  refine XL.nil ?_
  refine XQ.thenN ?_
  refine XC.seq ?_
  refine XC.reg ?_
  refine XL.mv rfl rfl ?_
  refine XL.bd z_core_Caller p_core_Caller rfl rfl ?_
  refine XL.al z_core_Caller rfl (fun b10 => ?_)
  refine XL.stM g_core_Caller rfl rfl rfl (by rfl) rfl ?_
  refine XL.nil ?_
  refine XQ.thenN ?_
  refine XC.seq ?_
  refine XC.reg ?_
  refine XL.mv rfl rfl ?_
  refine XL.ldM g_core_Caller rfl (by rfl) rfl ?_
  refine XL.bd z_attr_Set p_attr_Set rfl rfl ?_
  refine XL.call hb_core_FS_Create rfl rfl (core_FS_Create_new0_fn f vm vt 1 [(1, pt b)] b d (rootN now) [102] (by decide) 1 rfl rfl now [] check_f) (Tk.take (by repeat constructor)) ?_
  rintro _ _ ⟨x, rfl, rfl⟩
  simp only [List.cons_append, List.nil_append]
  refine XL.mv rfl rfl ?_
  refine XL.ex rfl rfl rfl ?_
  refine XL.ex rfl rfl rfl ?_
  refine XL.as rfl rfl ?_
  refine XL.as rfl rfl ?_
  refine XL.nil ?_
  refine XQ.thenN ?_
  refine XC.seq ?_
  refine XC.reg ?_
  refine XL.mv rfl rfl ?_
  refine XL.mv rfl rfl ?_
  refine XL.call hb_core_FS_Node rfl rfl (core_FS_Node_file_fn f vm vt (1 + 1) (setM [(1, pt b)] (1 + 1) (pt x)) (1 + 1) x rfl (newN 1 420 1 (1 + 1) now [] 0)) (Tk.take (by repeat constructor)) ?_
  rintro _ _ ⟨rfl, rfl⟩
  simp only [List.cons_append, List.nil_append]
  refine XL.mv rfl rfl ?_
  refine XL.ex rfl rfl rfl ?_
  refine XL.ex rfl rfl rfl ?_
  refine XL.al z_core_Node rfl (fun b13 => ?_)
  refine XL.stM g_core_Node rfl rfl rfl (by rfl) rfl ?_
  refine XL.as rfl rfl ?_
  refine XL.nil ?_
  refine XQ.thenN ?_
  refine XC.seq ?_
  refine XC.reg ?_
  refine XL.mv rfl rfl ?_
  refine XL.mv rfl rfl ?_
  refine XL.bd z_attr_Time p_attr_Time rfl rfl ?_
  refine XL.al z_attr_Time rfl (fun b15 => ?_)
  refine XL.stM g_attr_Time rfl rfl rfl (by rfl) rfl ?_
  refine XL.nil ?_
  refine XQ.thenN ?_
  refine XC.seq ?_
  refine XC.reg ?_
  refine XL.mv rfl rfl ?_
  refine XL.ldM g_core_Caller rfl (by rfl) rfl ?_
  refine XL.mv rfl rfl ?_
  refine XL.mv rfl rfl ?_
  refine XL.bd z_attr_Set p_attr_Set rfl rfl ?_
  refine XL.ldM g_attr_Time rfl (by rfl) rfl ?_
  refine XL.bs (enc := encT) [(gs, gn)] e_L_attr_Time z_attr_Time rfl rfl rfl (by simp) rfl (fun v51 _ => ?_)
  refine XL.call hb_core_FS_SetAttr rfl rfl (core_FS_SetAttr_guard_fn f vm vt (1 + 1) (setM [(1, pt b)] (1 + 1) (pt x)) (1 + 1) x rfl (newN 1 420 1 (1 + 1) now [] 0) nilP now v51 gs gn m 0 hg) (Tk.take (by repeat constructor)) ?_
  rintro _ _ ⟨rfl, rfl⟩
  simp only [List.cons_append, List.nil_append]
  refine XL.as rfl rfl ?_
  refine XL.nil ?_
  refine XQ.thenN ?_
  refine XC.seq ?_
  refine XC.reg ?_
  refine XL.mv rfl rfl ?_
  refine XL.mv rfl rfl ?_
  refine XL.call hb_core_FS_Node rfl rfl (core_FS_Node_file_fn f vm vt (1 + 1) (setM [(1, pt b)] (1 + 1) (pt x)) (1 + 1) x rfl (newN 1 420 1 (1 + 1) now [] 0)) (Tk.take (by repeat constructor)) ?_
  rintro _ _ ⟨rfl, rfl⟩
  simp only [List.cons_append, List.nil_append]
  refine XL.mv rfl rfl ?_
  refine XL.ex rfl rfl rfl ?_
  refine XL.ex rfl rfl rfl ?_
  refine XL.al z_core_Node rfl (fun b17 => ?_)
  refine XL.stM g_core_Node rfl rfl rfl (by rfl) rfl ?_
  refine XL.as rfl rfl ?_
  refine XL.nil ?_
  refine XQ.thenN ?_
  refine XC.seq ?_
  refine XC.seq ?_
  refine XC.reg ?_
  refine XL.ldM g_attr_Time rfl (by rfl) rfl ?_
  refine XL.fa fo_core_Node_0 rfl rfl ?_
  refine XL.fa fo_attr_Attr_13 rfl rfl ?_
  refine XL.ldM g_attr_Time rfl (by rfl) rfl ?_
  refine XL.bin rfl rfl rfl (bNeSt eqs_attr_Time) ?_
  refine XL.nil ?_
  refine XQ.thenN ?_
  refine XC.condT' rfl (by simp; omega) ?_
  refine XC.seq ?_
  refine XC.reg ?_
  refine XL.mv rfl rfl ?_
  refine XL.bin rfl rfl rfl (bEqI) ?_
  refine XL.mv rfl rfl ?_
  refine XL.re 66 (u := .bool true) rfl (rfl) ?_
  refine XL.fa fo_core_Node_0 rfl rfl ?_
  refine XL.ldM g_attr_Attr rfl (by rfl) rfl ?_
  refine XL.fa fo_core_Node_0 rfl rfl ?_
  refine XL.ldM g_attr_Attr rfl (by rfl) rfl ?_
  refine XL.bin rfl rfl rfl (bEqInts [1, 420, 1, 0, 0, 0, 0, 0, 0, 1, 1 + 1, now, 0, now, 0, now, 0] rfl (by kernel_rfl)) ?_
  refine XL.pkT rfl rfl rfl ?_
  refine XL.as rfl rfl ?_
  refine XL.nil ?_
  refine XQ.thenN ?_
  refine XC.ret ?_
  refine XQ.thenR ?_
  exact XQ.ret (.inl rfl) rfl (rC (resT rfl) <| rN) [] (⟨rfl, rfl⟩) ((prm (by repeat constructor)))

theorem coraclelaw13_CoreGuard_yes_fn (now gs gn m : Int) (hg : gs = now ∧ gn = 0) : Does P F_coraclelaw13_CoreGuard [I now, .agg [I gs, I gn].toArray, I m] [] fun u cs => u = B true ∧ cs = [] := by
  refine Does.mk (N := 83) fn_coraclelaw13_CoreGuard rfl rfl rfl (fun F => ?_)
  simp only [List.cons_append, List.nil_append]
  refine XC.seq ?_
  refine XC.reg ?_
  refine XL.bx rfl rfl rfl (fun b4 => ?_)
  refine XL.as rfl rfl ?_
  refine XL.nil ?_
  refine XQ.thenN ?_
  refine XC.seq ?_
  refine XC.seq ?_
  refine XC.reg ?_
  refine XL.call hb_coraclelaw13_speaks rfl rfl (coraclelaw13_speaks_fn) (tn) ?_
  rintro _ _ ⟨rfl, rfl⟩
  simp only [List.cons_append, List.nil_append]
  refine XL.notT rfl rfl ?_
  refine XL.nil ?_
  refine XQ.thenN ?_
  refine XC.condF' rfl (rfl) ?_
  refine XC.skip ?_
  refine XQ.thenN ?_
  refine XC.seq ?_
  refine XC.drw (.q 0 <| .q 1 <| .q 2 <| .q 3 <| .q 4 <| .e 5 <| .done) mixed (by kernel_rfl) rfl ?_
  refine JP.qq rfl rfl rfl (XL.ixA 0 a_A2_int rfl rfl rfl (by decide) rfl XL.qd) ?_
  refine JP.qq rfl rfl rfl (XL.ld o_int rfl (by rfl) rfl XL.qd) ?_
  refine JP.qq rfl rfl rfl (XL.ixA 1 a_A2_int rfl rfl rfl (by decide) rfl XL.qd) ?_
  refine JP.qq rfl rfl rfl (XL.ld o_int rfl (by rfl) rfl XL.qd) ?_
  refine JP.qq rfl rfl rfl (XL.as rfl rfl XL.qd) ?_
  refine JP.ee rfl ?_
  refine XL.as rfl rfl ?_
  refine XL.ed ?_
  refine JP.done ?_
  refine XQ.thenN ?_
  refine XC.seq ?_
  refine XC.reg ?_
  refine XL.mv rfl rfl ?_
  refine XL.call hb_core_New rfl rfl (core_New_fn now) (tn) ?_
  rintro _ _ ⟨f, vm, vt, b, d, rfl, rfl⟩
  simp only [List.cons_append, List.nil_append]
  refine XL.as rfl rfl ?_
  refine XL.nil ?_
  refine XQ.thenN ?_
  refine XC.seq ?_
  refine XC.reg ?_
  refine XL.mv rfl rfl ?_
  refine XL.bd z_core_Caller p_core_Caller rfl rfl ?_
  refine XL.al z_core_Caller rfl (fun b10 => ?_)
  refine XL.stM g_core_Caller rfl rfl rfl (by rfl) rfl ?_
  refine XL.nil ?_
  refine XQ.thenN ?_
  refine XC.seq ?_
  refine XC.reg ?_
  refine XL.mv rfl rfl ?_
  refine XL.ldM g_core_Caller rfl (by rfl) rfl ?_
  refine XL.bd z_attr_Set p_attr_Set rfl rfl ?_
  refine XL.call hb_core_FS_Create rfl rfl (core_FS_Create_new0_fn f vm vt 1 [(1, pt b)] b d (rootN now) [102] (by decide) 1 rfl rfl now [] check_f) (Tk.take (by repeat constructor)) ?_
  rintro _ _ ⟨x, rfl, rfl⟩
  simp only [List.cons_append, List.nil_append]
  refine XL.mv rfl rfl ?_
  refine XL.ex rfl rfl rfl ?_
  refine XL.ex rfl rfl rfl ?_
  refine XL.as rfl rfl ?_
  refine XL.as rfl rfl ?_
  refine XL.nil ?_
  refine XQ.thenN ?_
  refine XC.seq ?_
  refine XC.reg ?_
  refine XL.mv rfl rfl ?_
  refine XL.mv rfl rfl ?_
  refine XL.call hb_core_FS_Node rfl rfl (core_FS_Node_file_fn f vm vt (1 + 1) (setM [(1, pt b)] (1 + 1) (pt x)) (1 + 1) x rfl (newN 1 420 1 (1 + 1) now [] 0)) (Tk.take (by repeat constructor)) ?_
  rintro _ _ ⟨rfl, rfl⟩
  simp only [List.cons_append, List.nil_append]
  refine XL.mv rfl rfl ?_
  refine XL.ex rfl rfl rfl ?_
  refine XL.ex rfl rfl rfl ?_
  refine XL.al z_core_Node rfl (fun b13 => ?_)
  refine XL.stM g_core_Node rfl rfl rfl (by rfl) rfl ?_
  refine XL.as rfl rfl ?_
  refine XL.nil ?_
  refine XQ.thenN ?_
  refine XC.seq ?_
  refine XC.reg ?_
  refine XL.mv rfl rfl ?_
  refine XL.mv rfl rfl ?_
  refine XL.bd z_attr_Time p_attr_Time rfl rfl ?_
  refine XL.al z_attr_Time rfl (fun b15 => ?_)
  refine XL.stM g_attr_Time rfl rfl rfl (by rfl) rfl ?_
  refine XL.nil ?_
  refine XQ.thenN ?_
  refine XC.seq ?_
  refine XC.reg ?_
  refine XL.mv rfl rfl ?_
  refine XL.ldM g_core_Caller rfl (by rfl) rfl ?_
  refine XL.mv rfl rfl ?_
  refine XL.mv rfl rfl ?_
  refine XL.bd z_attr_Set p_attr_Set rfl rfl ?_
  refine XL.ldM g_attr_Time rfl (by rfl) rfl ?_
  refine XL.bs (enc := encT) [(gs, gn)] e_L_attr_Time z_attr_Time rfl rfl rfl (by simp) rfl (fun v51 _ => ?_)
  refine XL.call hb_core_FS_SetAttr rfl rfl (core_FS_SetAttr_mode_fn f vm vt (1 + 1) (setM [(1, pt b)] (1 + 1) (pt x)) (1 + 1) x rfl (newN 1 420 1 (1 + 1) now [] 0) nilP now v51 gs gn m 0 hg) (Tk.take (by repeat constructor)) ?_
  rintro _ _ ⟨rfl, rfl⟩
  simp only [List.cons_append, List.nil_append]
  refine XL.as rfl rfl ?_
  refine XL.nil ?_
  refine XQ.thenN ?_
  refine XC.seq ?_
  refine XC.reg ?_
  refine XL.mv rfl rfl ?_
  refine XL.mv rfl rfl ?_
  refine XL.call hb_core_FS_Node rfl rfl (core_FS_Node_file_fn f vm vt (1 + 1) (setM [(1, pt b)] (1 + 1) (pt x)) (1 + 1) x rfl ({ Nd.touched (newN 1 420 1 (1 + 1) now [] 0) now with mode := modeI m })) (Tk.take (by repeat constructor)) ?_
  rintro _ _ ⟨rfl, rfl⟩
  simp only [List.cons_append, List.nil_append]
  refine XL.mv rfl rfl ?_
  refine XL.ex rfl rfl rfl ?_
  refine XL.ex rfl rfl rfl ?_
  refine XL.al z_core_Node rfl (fun b17 => ?_)
  refine XL.stM g_core_Node rfl rfl rfl (by rfl) rfl ?_
  refine XL.as rfl rfl ?_
  refine XL.nil ?_
  refine XQ.thenN ?_
  refine XC.seq ?_
  refine XC.seq ?_
  refine XC.reg ?_
  refine XL.ldM g_attr_Time rfl (by rfl) rfl ?_
  refine XL.fa fo_core_Node_0 rfl rfl ?_
  refine XL.fa fo_attr_Attr_13 rfl rfl ?_
  refine XL.ldM g_attr_Time rfl (by rfl) rfl ?_
  refine XL.bin rfl rfl rfl (bNeSt eqs_attr_Time) ?_
  refine XL.nil ?_
  refine XQ.thenN ?_
  refine XC.condF' rfl (by simp [hg.1, hg.2]) ?_
  refine XC.skip ?_
  refine XQ.thenN ?_
  refine XC.seq ?_
  refine XC.reg ?_
  refine XL.mv rfl rfl ?_
  refine XL.bin rfl rfl rfl (bEqI) ?_
  refine XL.mv rfl rfl ?_
  refine XL.re 75 (u := .bool true) rfl (rfl) ?_
  refine XL.fa fo_core_Node_0 rfl rfl ?_
  refine XL.fa fo_attr_Attr_1 rfl rfl ?_
  refine XL.ld o_int rfl (by rfl) rfl ?_
  refine XL.mv rfl rfl ?_
  refine XL.bin rfl rfl rfl (bAndK) ?_
  refine XL.bin rfl rfl rfl (bEqI) ?_
  refine XL.pkT rfl rfl rfl ?_
  refine XL.as rfl rfl ?_
  refine XL.nil ?_
  refine XQ.thenN ?_
  refine XC.ret ?_
  exact XQ.ret (.inl rfl) rfl (rC (resT rfl) <| rN) [] (⟨congrArg Value.bool (decide_eq_true rfl), rfl⟩) ((prm (by repeat constructor)))

theorem coraclelaw13_CoreGuard_fn (now gs gn m : Int) : Does P F_coraclelaw13_CoreGuard [I now, .agg [I gs, I gn].toArray, I m] [] fun u cs => u = B true ∧ cs = [] := by
  by_cases hg : gs = now ∧ gn = 0
  · exact coraclelaw13_CoreGuard_yes_fn now gs gn m hg
  · exact coraclelaw13_CoreGuard_no_fn now gs gn m hg

theorem coraclelaw13_CoreGuard_row (now m : Int) (w0 : World) (M : Nat) (v : Value) (a : Array Value) (hv : v = .agg a) (l : List Dv) (hr : Rd w0 M (.agg [.int .i64, .int .i64]) a.toList (.agg l)) :
    Does P F_coraclelaw13_CoreGuard [I now, v, I m] [old w0] fun u cs => u = B true ∧ cs = [old w0] := by
  subst hv
  have key : ∃ x y : Int, a = [I x, I y].toArray := by
    rw [Rd] at hr
    match l, hr with
    | [], hr => simp [RdL] at hr
    | [_], hr => simp [RdL] at hr
    | _ :: _ :: _ :: _, hr => simp [RdL] at hr
    | [d1, d2], hr =>
      simp only [RdL] at hr
      obtain ⟨c1, c2, e1, _, r1, c3, c4, e2, _, r2, e3⟩ := hr
      cases d1 with
      | int x =>
        cases d2 with
        | int y =>
          obtain ⟨f1, _⟩ := r1
          obtain ⟨f2, _⟩ := r2
          refine ⟨x, y, ?_⟩
          subst e3 e2 f1 f2
          exact Array.ext' (by simpa using e1)
        | _ => exact absurd r2 (by simp [Rd])
      | _ => exact absurd r1 (by simp [Rd])
  obtain ⟨x, y, rfl⟩ := key
  refine (Does.frame (coraclelaw13_CoreGuard_fn now x y m) (rest := [old w0])).mono ?_
  rintro u c ⟨c', ⟨h1, h2⟩, h3⟩
  exact ⟨h1, by rw [h3, h2]; rfl⟩
end Go.Proofs.YteeiccjglmehcaaGreat
