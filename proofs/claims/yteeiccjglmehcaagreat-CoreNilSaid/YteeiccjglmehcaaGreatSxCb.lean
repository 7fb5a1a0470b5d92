/-
  Package core: names, attributes set. Printed by mk.py out of spec_coreb.py.
-/
import Derived.Test.YteeiccjglmehcaaGreatSxCa
import Derived.Test.YteeiccjglmehcaaGreatSx16
namespace Go.Proofs.YteeiccjglmehcaaGreat
open Go Go.Sx

set_option synthInstance.maxSize 4000
set_option synthInstance.maxHeartbeats 200000
theorem strings_ContainsAny_asc (s c : List UInt8) (hs : s.length ≤ 1000000) (hc : c.length ≤ 1000000) (has : ∀ b ∈ s, b.toNat < 128) (hac : ∀ b ∈ c, b.toNat < 128) : Does P F_strings_ContainsAny [S s, S c] [] fun u cs => u = B (Lib.containsAny s c) ∧ cs = [] :=
  Does.of_below fun w => Tryz.strings_ContainsAny_laid ⟨s.toArray⟩ ⟨c.toArray⟩ w (by rw [size_S]; omega) (by rw [size_S]; omega) (fun j b h => has b (List.mem_of_getElem? (by simpa using h))) (fun j b h => hac b (List.mem_of_getElem? (by simpa using h)))

theorem name_Check_ok_fn (s : List UInt8) (hl : s.length ≤ 64) (h0 : s ≠ []) (h1 : s ≠ [46]) (h2 : s ≠ [46, 46]) (has : ∀ b ∈ s, b.toNat < 128) (hc : Lib.containsAny s [47, 0] = false) : Does P F_name_Check [S s] [] fun u cs => u = I 0 ∧ cs = [] := by
  refine Does.mk (N := 22) fn_name_Check rfl rfl rfl (fun F => ?_)
  simp only [List.cons_append, List.nil_append]
  refine XC.seq ?_
  refine XC.reg ?_
  refine XL.as rfl rfl ?_
  refine XL.nil ?_
  refine XQ.thenN ?_
  refine XC.seq ?_
  refine XC.block ?_
  refine XC.seq ?_
  refine XC.reg ?_
  refine XL.mv rfl rfl ?_
  refine XL.lenT u_string rfl rfl ?_
  refine XL.bin rfl rfl rfl (bGtr) ?_
  refine XL.as rfl rfl ?_
  refine XL.nil ?_
  refine XQ.thenN ?_
  refine XC.condF' rfl (decide_eq_false (by omega)) ?_
  refine XC.seq ?_
  refine XC.reg ?_
  refine XL.mv rfl rfl ?_
  refine XL.bin rfl rfl rfl (bEqS) ?_
  refine XL.mv rfl rfl ?_
  refine XL.re 10 (u := .bool false) rfl (congrArg Value.bool (decide_eq_false h0)) ?_
  refine XL.mv rfl rfl ?_
  refine XL.bin rfl rfl rfl (bEqS) ?_
  refine XL.pkF rfl rfl rfl ?_
  refine XL.mv rfl rfl ?_
  refine XL.re 14 (u := .bool false) rfl (congrArg Value.bool (decide_eq_false h1)) ?_
  refine XL.mv rfl rfl ?_
  refine XL.bin rfl rfl rfl (bEqS) ?_
  refine XL.pkF rfl rfl rfl ?_
  refine XL.mv rfl rfl ?_
  refine XL.re 18 (u := .bool false) rfl (congrArg Value.bool (decide_eq_false h2)) ?_
  refine XL.mv rfl rfl ?_
  refine XL.call hb_strings_ContainsAny rfl rfl (strings_ContainsAny_asc s [47, 0] (by omega) (by decide) has (by decide)) tn ?_
  rintro _ _ ⟨rfl, rfl⟩
  simp only [List.cons_append, List.nil_append]
  refine XL.pkF rfl rfl rfl ?_
  refine XL.as rfl rfl ?_
  refine XL.nil ?_
  refine XQ.thenN ?_
  refine XC.condF' rfl (hc) ?_
  refine XC.skip ?_
  refine XQ.blkN ?_
  refine XQ.thenN ?_
  refine XC.seq ?_
  refine XC.reg ?_
  refine XL.as rfl rfl ?_
  refine XL.nil ?_
  refine XQ.thenN ?_
  refine XC.ret ?_
  exact XQ.ret (.inl rfl) rfl (rC (resT rfl) <| rN) [] (⟨rfl, rfl⟩) (fun w h => h)

theorem check_a : Does P F_name_Check [S [97]] [] fun u cs => u = I 0 ∧ cs = [] := name_Check_ok_fn [97] (by decide) (by decide) (by decide) (by decide) (by decide) (by kernel_rfl)
theorem check_f : Does P F_name_Check [S [102]] [] fun u cs => u = I 0 ∧ cs = [] := name_Check_ok_fn [102] (by decide) (by decide) (by decide) (by decide) (by decide) (by kernel_rfl)
@[reducible] def encT (t : Int × Int) : List Value := [I t.1, I t.2]

theorem core_FS_SetAttr_guard_fn (f : Nat) (vm vt : Value) (last : Int) (es : List (Int × Value)) (id : Int) (b : Nat) (hb : getM es id = some (pt b)) (n : Nd) (p : Value) (now : Int) (vg : Value) (gs gn m z : Int) (hg : ¬(gs = n.c0 ∧ gn = n.c1)) : Does P F_core_FS_SetAttr [pt f, clV now, I id, seV true false m z, vg] [fsc f vm vt last, mapC vm encKI es, metC vt, ndc b n p, sl vg encT [(gs, gn)] T_attr_Time 2] fun u cs => u = I 10002 ∧ cs = [fsc f vm vt last, mapC vm encKI es, metC vt, ndc b n p, sl vg encT [(gs, gn)] T_attr_Time 2] := by
  refine Does.mk (N := 53) fn_core_FS_SetAttr rfl rfl rfl (fun F => ?_)
  simp only [List.cons_append, List.nil_append]
  refine XC.isAt vg 0 (by simp) (fun bg _ => ?_)
  refine XC.seq ?_
  refine XC.reg ?_
  refine XL.bx rfl rfl rfl (fun b6 => ?_)
  refine XL.bx rfl rfl rfl (fun b8 => ?_)
  refine XL.as rfl rfl ?_
  refine XL.nil ?_
  refine XQ.thenN ?_
  refine XC.seq ?_
  refine XC.reg ?_
  refine XL.mv rfl rfl ?_
  refine XL.mv rfl rfl ?_
  refine XL.call hb_core_FS_get rfl rfl (core_FS_get_fn f vm vt last es id b hb) (Tk.take (by repeat constructor)) ?_
  rintro _ _ ⟨rfl, rfl⟩
  simp only [List.cons_append, List.nil_append]
  refine XL.mv rfl rfl ?_
  refine XL.ex rfl rfl rfl ?_
  refine XL.ex rfl rfl rfl ?_
  refine XL.as rfl rfl ?_
  refine XL.as rfl rfl ?_
  refine XL.nil ?_
  refine XQ.thenN ?_
  refine XC.seq ?_
  refine XC.block ?_
  refine XC.seq ?_
  refine XC.reg ?_
  refine XL.mv rfl rfl ?_
  refine XL.bin rfl rfl rfl (bNeI) ?_
  refine XL.as rfl rfl ?_
  refine XL.nil ?_
  refine XQ.thenN ?_
  refine XC.condF' rfl (rfl) ?_
  refine XC.seq ?_
  refine XC.drw (.q 0 <| .q 1 <| .q 2 <| .q 3 <| .q 4 <| .q 5 <| .q 6 <| .q 7 <| .q 8 <| .q 9 <| .q 10 <| .q 11 <| .q 12 <| .q 13 <| .e 14 <| .done) mixed (by kernel_rfl) rfl ?_
  refine JP.qq rfl rfl rfl (XL.mv rfl rfl XL.qd) ?_
  refine JP.qq rfl rfl rfl (XL.lenS e_L_attr_Time rfl rfl XL.qd) ?_
  refine JP.qq rfl rfl rfl (XL.bin rfl rfl rfl (bGtr) XL.qd) ?_
  refine JP.qq rfl rfl rfl (XL.mv rfl rfl XL.qd) ?_
  refine JP.re 28 (u := .bool true) rfl (rfl) ?_
  refine JP.qq rfl rfl rfl (XL.mv rfl rfl XL.qd) ?_
  refine JP.qq rfl rfl rfl (XL.ixB 0 e_L_attr_Time rfl rfl rfl (by simp) rfl XL.qd) ?_
  refine JP.qq rfl rfl rfl (XL.ldSN g_attr_Time rfl (by simp) rfl XL.qd) ?_
  refine JP.qq rfl rfl rfl (XL.mv rfl rfl XL.qd) ?_
  refine JP.qq rfl rfl rfl (XL.ncP rfl rfl XL.qd) ?_
  refine JP.qq rfl rfl rfl (XL.fa fo_core_Node_0 rfl rfl XL.qd) ?_
  refine JP.qq rfl rfl rfl (XL.fa fo_attr_Attr_13 rfl rfl XL.qd) ?_
  refine JP.qq rfl rfl rfl (XL.ldM g_attr_Time rfl (by rfl) rfl XL.qd) ?_
  refine JP.qq rfl rfl rfl (XL.bin rfl rfl rfl (bNeSt eqs_attr_Time) XL.qd) ?_
  refine JP.qq rfl rfl rfl (XL.pkT rfl rfl rfl XL.qd) ?_
  refine JP.ee rfl ?_
  refine XL.as rfl rfl ?_
  refine XL.ed ?_
  refine JP.done ?_
  refine XQ.thenN ?_
  refine XC.condT' rfl (by simp; omega) ?_
  refine XC.seq ?_
  refine XC.reg ?_
  refine XL.as rfl rfl ?_
  refine XL.nil ?_
  refine XQ.thenN ?_
  refine XC.ret ?_
  refine XQ.blkR ?_
  refine XQ.thenR ?_
  exact XQ.ret (.inl rfl) rfl (rC (resT rfl) <| rN) [fsc f vm vt last, mapC vm encKI es, metC vt, ndc b n p, sl vg encT [(gs, gn)] T_attr_Time 2] (⟨rfl, rfl⟩) ((prm (by repeat constructor)))

theorem core_FS_SetAttr_mode_fn (f : Nat) (vm vt : Value) (last : Int) (es : List (Int × Value)) (id : Int) (b : Nat) (hb : getM es id = some (pt b)) (n : Nd) (p : Value) (now : Int) (vg : Value) (gs gn m z : Int) (hg : gs = n.c0 ∧ gn = n.c1) : Does P F_core_FS_SetAttr [pt f, clV now, I id, seV true false m z, vg] [fsc f vm vt last, mapC vm encKI es, metC vt, ndc b n p, sl vg encT [(gs, gn)] T_attr_Time 2] fun u cs => u = I 0 ∧ cs = [fsc f vm vt last, mapC vm encKI es, metC vt, ndc b ({ n.touched now with mode := modeI m }) p, sl vg encT [(gs, gn)] T_attr_Time 2] := by
  refine Does.mk (N := 53) fn_core_FS_SetAttr rfl rfl rfl (fun F => ?_)
  simp only [List.cons_append, List.nil_append]
  refine XC.isAt vg 0 (by simp) (fun bg _ => ?_)
  refine XC.seq ?_
  refine XC.reg ?_
  refine XL.bx rfl rfl rfl (fun b6 => ?_)
  refine XL.bx rfl rfl rfl (fun b8 => ?_)
  refine XL.as rfl rfl ?_
  refine XL.nil ?_
  refine XQ.thenN ?_
  refine XC.seq ?_
  refine XC.reg ?_
  refine XL.mv rfl rfl ?_
  refine XL.mv rfl rfl ?_
  refine XL.call hb_core_FS_get rfl rfl (core_FS_get_fn f vm vt last es id b hb) (Tk.take (by repeat constructor)) ?_
  rintro _ _ ⟨rfl, rfl⟩
  simp only [List.cons_append, List.nil_append]
  refine XL.mv rfl rfl ?_
  refine XL.ex rfl rfl rfl ?_
  refine XL.ex rfl rfl rfl ?_
  refine XL.as rfl rfl ?_
  refine XL.as rfl rfl ?_
  refine XL.nil ?_
  refine XQ.thenN ?_
  refine XC.seq ?_
  refine XC.block ?_
  refine XC.seq ?_
  refine XC.reg ?_
  refine XL.mv rfl rfl ?_
  refine XL.bin rfl rfl rfl (bNeI) ?_
  refine XL.as rfl rfl ?_
  refine XL.nil ?_
  refine XQ.thenN ?_
  refine XC.condF' rfl (rfl) ?_
  refine XC.seq ?_
  refine XC.drw (.q 0 <| .q 1 <| .q 2 <| .q 3 <| .q 4 <| .q 5 <| .q 6 <| .q 7 <| .q 8 <| .q 9 <| .q 10 <| .q 11 <| .q 12 <| .q 13 <| .e 14 <| .done) mixed (by kernel_rfl) rfl ?_
  refine JP.qq rfl rfl rfl (XL.mv rfl rfl XL.qd) ?_
  refine JP.qq rfl rfl rfl (XL.lenS e_L_attr_Time rfl rfl XL.qd) ?_
  refine JP.qq rfl rfl rfl (XL.bin rfl rfl rfl (bGtr) XL.qd) ?_
  refine JP.qq rfl rfl rfl (XL.mv rfl rfl XL.qd) ?_
  refine JP.re 28 (u := .bool true) rfl (rfl) ?_
  refine JP.qq rfl rfl rfl (XL.mv rfl rfl XL.qd) ?_
  refine JP.qq rfl rfl rfl (XL.ixB 0 e_L_attr_Time rfl rfl rfl (by simp) rfl XL.qd) ?_
  refine JP.qq rfl rfl rfl (XL.ldSN g_attr_Time rfl (by simp) rfl XL.qd) ?_
  refine JP.qq rfl rfl rfl (XL.mv rfl rfl XL.qd) ?_
  refine JP.qq rfl rfl rfl (XL.ncP rfl rfl XL.qd) ?_
  refine JP.qq rfl rfl rfl (XL.fa fo_core_Node_0 rfl rfl XL.qd) ?_
  refine JP.qq rfl rfl rfl (XL.fa fo_attr_Attr_13 rfl rfl XL.qd) ?_
  refine JP.qq rfl rfl rfl (XL.ldM g_attr_Time rfl (by rfl) rfl XL.qd) ?_
  refine JP.qq rfl rfl rfl (XL.bin rfl rfl rfl (bNeSt eqs_attr_Time) XL.qd) ?_
  refine JP.qq rfl rfl rfl (XL.pkT rfl rfl rfl XL.qd) ?_
  refine JP.ee rfl ?_
  refine XL.as rfl rfl ?_
  refine XL.ed ?_
  refine JP.done ?_
  refine XQ.thenN ?_
  refine XC.condF' rfl (by simp [hg.1, hg.2]) ?_
  refine XC.skip ?_
  refine XQ.blkN ?_
  refine XQ.thenN ?_
  refine XC.seq ?_
  refine XC.seq ?_
  refine XC.reg ?_
  refine XL.ldM g_core_Caller rfl (by rfl) rfl ?_
  refine XL.mv rfl rfl ?_
  refine XL.ldM g_attr_Set rfl (by rfl) rfl ?_
  refine XL.call hb_core_Caller_settable rfl rfl (core_Caller_settable_mode_fn b n p now m z) (Tk.take (by repeat constructor)) ?_
  rintro _ _ ⟨rfl, rfl⟩
  simp only [List.cons_append, List.nil_append]
  refine XL.as rfl rfl ?_
  refine XL.nil ?_
  refine XQ.thenN ?_
  refine XC.seq ?_
  refine XC.reg ?_
  refine XL.mv rfl rfl ?_
  refine XL.bin rfl rfl rfl (bNeI) ?_
  refine XL.nil ?_
  refine XQ.thenN ?_
  refine XC.condF' rfl (rfl) ?_
  refine XC.skip ?_
  refine XQ.thenN ?_
  refine XC.seq ?_
  refine XC.reg ?_
  refine XL.ldM g_core_Caller rfl (by rfl) rfl ?_
  refine XL.mv rfl rfl ?_
  refine XL.ldM g_attr_Set rfl (by rfl) rfl ?_
  refine XL.call hb_core_Caller_set rfl rfl (core_Caller_set_mode_fn b n p now m z) (Tk.take (by repeat constructor)) ?_
  rintro _ _ ⟨rfl, rfl⟩
  simp only [List.cons_append, List.nil_append]
  refine XL.nil ?_
  refine XQ.thenN ?_
  refine XC.seq ?_
  refine XC.reg ?_
  refine XL.mv rfl rfl ?_
  refine XL.mv rfl rfl ?_
  refine XL.call hb_core_FS_touch rfl rfl (core_FS_touch_fn f vm vt last id []) (Tk.take (by repeat constructor)) ?_
  rintro _ _ ⟨rfl, rfl⟩
  simp only [List.cons_append, List.nil_append]
  refine XL.nil ?_
  refine XQ.thenN ?_
  refine XC.seq ?_
  refine XC.reg ?_
  refine XL.as rfl rfl ?_
  refine XL.nil ?_
  refine XQ.thenN ?_
  refine XC.ret ?_
  exact XQ.ret (.inl rfl) rfl (rC (resT rfl) <| rN) [fsc f vm vt last, mapC vm encKI es, metC vt, ndc b ({ n.touched now with mode := modeI m }) p, sl vg encT [(gs, gn)] T_attr_Time 2] (⟨rfl, rfl⟩) ((prm (by repeat constructor)))

theorem core_FS_SetAttr_size_fn (f : Nat) (vm vt : Value) (last : Int) (es : List (Int × Value)) (id : Int) (b : Nat) (hb : getM es id = some (pt b)) (n : Nd) (p : Value) (now : Int) (m : Int) (z : Nat) (hk : n.kind = 1) (hd : n.data.length ≤ 1000000) (hz : z ≤ 8192) : Does P F_core_FS_SetAttr [pt f, clV now, I id, seV false true m (z : Int), nilS] [fsc f vm vt last, mapC vm encKI es, metC vt, ndc b n p] fun u cs => u = I 0 ∧ cs = [fsc f vm vt last, mapC vm encKI es, metC vt, ndc b (n.sized now z) p] := by
  refine Does.mk (N := 53) fn_core_FS_SetAttr rfl rfl rfl (fun F => ?_)
  simp only [List.cons_append, List.nil_append]
  refine XC.to (cs' := [sl nilS encT [] T_attr_Time 2, fsc f vm vt last, mapC vm encKI es, metC vt, ndc b n p, F]) (fun w h => sl_nil (prm (by repeat constructor) _ h)) ?_
  refine XC.seq ?_
  refine XC.reg ?_
  refine XL.bx rfl rfl rfl (fun b6 => ?_)
  refine XL.bx rfl rfl rfl (fun b8 => ?_)
  refine XL.as rfl rfl ?_
  refine XL.nil ?_
  refine XQ.thenN ?_
  refine XC.seq ?_
  refine XC.reg ?_
  refine XL.mv rfl rfl ?_
  refine XL.mv rfl rfl ?_
  refine XL.call hb_core_FS_get rfl rfl (core_FS_get_fn f vm vt last es id b hb) (Tk.take (by repeat constructor)) ?_
  rintro _ _ ⟨rfl, rfl⟩
  simp only [List.cons_append, List.nil_append]
  refine XL.mv rfl rfl ?_
  refine XL.ex rfl rfl rfl ?_
  refine XL.ex rfl rfl rfl ?_
  refine XL.as rfl rfl ?_
  refine XL.as rfl rfl ?_
  refine XL.nil ?_
  refine XQ.thenN ?_
  refine XC.seq ?_
  refine XC.block ?_
  refine XC.seq ?_
  refine XC.reg ?_
  refine XL.mv rfl rfl ?_
  refine XL.bin rfl rfl rfl (bNeI) ?_
  refine XL.as rfl rfl ?_
  refine XL.nil ?_
  refine XQ.thenN ?_
  refine XC.condF' rfl (rfl) ?_
  refine XC.seq ?_
  refine XC.drw (.q 0 <| .q 1 <| .q 2 <| .q 3 <| .q 4 <| .q 5 <| .q 6 <| .q 7 <| .q 8 <| .q 9 <| .q 10 <| .q 11 <| .q 12 <| .q 13 <| .e 14 <| .done) mixed (by kernel_rfl) rfl ?_
  refine JP.qq rfl rfl rfl (XL.mv rfl rfl XL.qd) ?_
  refine JP.qq rfl rfl rfl (XL.lenS e_L_attr_Time rfl rfl XL.qd) ?_
  refine JP.qq rfl rfl rfl (XL.bin rfl rfl rfl (bGtr) XL.qd) ?_
  refine JP.qq rfl rfl rfl (XL.mv rfl rfl XL.qd) ?_
  refine JP.re 28 (u := .bool false) rfl (rfl) ?_
  refine JP.qq rfl rfl rfl (XL.no rfl rfl XL.qd) ?_
  refine JP.qq rfl rfl rfl (XL.no rfl rfl XL.qd) ?_
  refine JP.qq rfl rfl rfl (XL.no rfl rfl XL.qd) ?_
  refine JP.qq rfl rfl rfl (XL.no rfl rfl XL.qd) ?_
  refine JP.qq rfl rfl rfl (XL.no rfl rfl XL.qd) ?_
  refine JP.qq rfl rfl rfl (XL.no rfl rfl XL.qd) ?_
  refine JP.qq rfl rfl rfl (XL.no rfl rfl XL.qd) ?_
  refine JP.qq rfl rfl rfl (XL.no rfl rfl XL.qd) ?_
  refine JP.qq rfl rfl rfl (XL.no rfl rfl XL.qd) ?_
  refine JP.qq rfl rfl rfl (XL.pkF rfl rfl rfl XL.qd) ?_
  refine JP.ee rfl ?_
  refine XL.as rfl rfl ?_
  refine XL.ed ?_
  refine JP.done ?_
  refine XQ.thenN ?_
  refine XC.condF' rfl (rfl) ?_
  refine XC.skip ?_
  refine XQ.blkN ?_
  refine XQ.thenN ?_
  refine XC.seq ?_
  refine XC.seq ?_
  refine XC.reg ?_
  refine XL.ldM g_core_Caller rfl (by rfl) rfl ?_
  refine XL.mv rfl rfl ?_
  refine XL.ldM g_attr_Set rfl (by rfl) rfl ?_
  refine XL.call hb_core_Caller_settable rfl rfl (core_Caller_settable_size_fn b n p now m (z : Int) hk (by omega) (by omega)) (Tk.take (by repeat constructor)) ?_
  rintro _ _ ⟨rfl, rfl⟩
  simp only [List.cons_append, List.nil_append]
  refine XL.as rfl rfl ?_
  refine XL.nil ?_
  refine XQ.thenN ?_
  refine XC.seq ?_
  refine XC.reg ?_
  refine XL.mv rfl rfl ?_
  refine XL.bin rfl rfl rfl (bNeI) ?_
  refine XL.nil ?_
  refine XQ.thenN ?_
  refine XC.condF' rfl (rfl) ?_
  refine XC.skip ?_
  refine XQ.thenN ?_
  refine XC.seq ?_
  refine XC.reg ?_
  refine XL.ldM g_core_Caller rfl (by rfl) rfl ?_
  refine XL.mv rfl rfl ?_
  refine XL.ldM g_attr_Set rfl (by rfl) rfl ?_
  refine XL.call hb_core_Caller_set rfl rfl (core_Caller_set_size_fn b n p now m z hd (by omega)) (Tk.take (by repeat constructor)) ?_
  rintro _ _ ⟨rfl, rfl⟩
  simp only [List.cons_append, List.nil_append]
  refine XL.nil ?_
  refine XQ.thenN ?_
  refine XC.seq ?_
  refine XC.reg ?_
  refine XL.mv rfl rfl ?_
  refine XL.mv rfl rfl ?_
  refine XL.call hb_core_FS_touch rfl rfl (core_FS_touch_fn f vm vt last id []) (Tk.take (by repeat constructor)) ?_
  rintro _ _ ⟨rfl, rfl⟩
  simp only [List.cons_append, List.nil_append]
  refine XL.nil ?_
  refine XQ.thenN ?_
  refine XC.seq ?_
  refine XC.reg ?_
  refine XL.as rfl rfl ?_
  refine XL.nil ?_
  refine XQ.thenN ?_
  refine XC.ret ?_
  exact XQ.ret (.inl rfl) rfl (rC (resT rfl) <| rN) [fsc f vm vt last, mapC vm encKI es, metC vt, ndc b (n.sized now z) p] (⟨rfl, rfl⟩) ((prm (by repeat constructor)))
end Go.Proofs.YteeiccjglmehcaaGreat
