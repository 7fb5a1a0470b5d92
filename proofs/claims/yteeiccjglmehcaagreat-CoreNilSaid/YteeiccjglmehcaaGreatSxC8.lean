/-
  Package core: a new file system, files made. Printed by mk.py out of spec_core8.py.
-/
import Derived.Test.YteeiccjglmehcaaGreatSxC7
namespace Go.Proofs.YteeiccjglmehcaaGreat
open Go Go.Sx

set_option synthInstance.maxSize 4000
set_option synthInstance.maxHeartbeats 200000
theorem metC_shut {v : Value} {ms : List ((Int × List UInt8) × Value)} {r : List Chunk} {w : World} (h : Sat (mapC v metE ms :: r) w) : Sat (metC v :: r) w := Sat.shut (f := fun ms => [mapC v metE ms]) ms h
@[reducible] def rootN (now : Int) : Nd := ⟨2, 511, 2, 0, 0, 1, now, 0, now, 0, now, 0, [], [], 1⟩

theorem core_New_fn (now : Int) : Does P F_core_New [I now] [] fun u cs => ∃ f vm vt b d, u = pt f ∧ cs = [fsc f vm vt 1, mapC vm encKI [(1, pt b)], metC vt, ndc b (rootN now) (pt d), dir0 d] := by
  refine Does.mk (N := 26) fn_core_New rfl rfl rfl (fun F => ?_)
  simp only [List.cons_append, List.nil_append]
  refine XC.seq ?_
  refine XC.reg ?_
  refine XL.as rfl rfl ?_
  refine XL.nil ?_
  refine XQ.thenN ?_
  refine XC.seq ?_
  refine XC.reg ?_
  refine XL.mkM encKI rfl (fun v5 _ => ?_)
  refine XL.mkM metE rfl (fun v6 _ => ?_)
  refine XL.bd z_core_FS p_core_FS rfl rfl ?_
  refine XL.bx rfl rfl rfl (fun b8 => ?_)
  refine XL.as rfl rfl ?_
  refine XL.nil ?_
  refine XQ.thenN ?_
  refine XC.seq ?_
  refine XC.reg ?_
  refine XL.mv rfl rfl ?_
  refine XL.bd z_attr_Time p_attr_Time rfl rfl ?_
  refine XL.al z_attr_Time rfl (fun b4 => ?_)
  refine XL.stM g_attr_Time rfl rfl rfl (by rfl) rfl ?_
  refine XL.nil ?_
  refine XQ.thenN ?_
  refine XC.seq ?_
  refine XC.drw (.q 0 <| .q 1 <| .q 2 <| .q 3 <| .q 4 <| .q 5 <| .q 6 <| .q 7 <| .q 8 <| .e 9 <| .r 0 <| .r 1 <| .r 2 <| .r 3 <| .r 4 <| .r 5 <| .r 6 <| .r 7 <| .q 10 <| .e 11 <| .r 0 <| .r 1 <| .r 2 <| .r 3 <| .e 12 <| .done) mixed (by kernel_rfl) rfl ?_
  refine JP.qq rfl rfl rfl (XL.mv rfl rfl XL.qd) ?_
  refine JP.qq rfl rfl rfl (XL.ncP rfl rfl XL.qd) ?_
  refine JP.qq rfl rfl rfl (XL.fa fo_core_FS_0 rfl rfl XL.qd) ?_
  refine JP.qq rfl rfl rfl (XL.ld o_M_int_P_core_Node rfl (by rfl) rfl XL.qd) ?_
  refine JP.qq rfl rfl rfl (XL.ldM g_attr_Time rfl (by rfl) rfl XL.qd) ?_
  refine JP.qq rfl rfl rfl (XL.ldM g_attr_Time rfl (by rfl) rfl XL.qd) ?_
  refine JP.qq rfl rfl rfl (XL.ldM g_attr_Time rfl (by rfl) rfl XL.qd) ?_
  refine JP.qq rfl rfl rfl (XL.bd z_attr_Attr p_attr_Attr rfl rfl XL.qd) ?_
  refine JP.qq rfl rfl rfl (XL.bd z_dir_Dir p_dir_Dir rfl rfl XL.qd) ?_
  refine JP.ee rfl ?_
  refine XL.bx rfl rfl rfl (fun b20 => ?_)
  refine XL.ed ?_
  refine JP.rr rfl rfl rfl (XL.mv rfl rfl XL.qd) ?_
  refine JP.rr rfl rfl rfl (XL.ncP rfl rfl XL.qd) ?_
  refine JP.rr rfl rfl rfl (XL.fa fo_core_FS_0 rfl rfl XL.qd) ?_
  refine JP.rr rfl rfl rfl (XL.ld o_M_int_P_core_Node rfl (by rfl) rfl XL.qd) ?_
  refine JP.rr rfl rfl rfl (XL.ldM g_attr_Time rfl (by rfl) rfl XL.qd) ?_
  refine JP.rr rfl rfl rfl (XL.ldM g_attr_Time rfl (by rfl) rfl XL.qd) ?_
  refine JP.rr rfl rfl rfl (XL.ldM g_attr_Time rfl (by rfl) rfl XL.qd) ?_
  refine JP.rr rfl rfl rfl (XL.bd z_attr_Attr p_attr_Attr rfl rfl XL.qd) ?_
  refine JP.qq rfl rfl rfl (XL.bd z_core_Node p_core_Node rfl rfl XL.qd) ?_
  refine JP.ee rfl ?_
  refine XL.bx rfl rfl rfl (fun b22 => ?_)
  refine XL.ed ?_
  refine JP.rr rfl rfl rfl (XL.mv rfl rfl XL.qd) ?_
  refine JP.rr rfl rfl rfl (XL.ncP rfl rfl XL.qd) ?_
  refine JP.rr rfl rfl rfl (XL.fa fo_core_FS_0 rfl rfl XL.qd) ?_
  refine JP.rr rfl rfl rfl (XL.ld o_M_int_P_core_Node rfl (by rfl) rfl XL.qd) ?_
  refine JP.ee rfl ?_
  refine XL.muM (1 : Int) m_M_int_P_core_Node (keyI u_int) rfl rfl rfl rfl ?_
  refine XL.edn ?_
  refine JP.done ?_
  refine XQ.thenN ?_
  refine XC.seq ?_
  refine XC.to (cs' := [metC v6, blk b8 [v5, I 1, v6] T_core_FS, mapC v5 encKI [(1, pt b22)], ndc b22 (rootN now) (pt b20), dir0 b20, F]) (fun w h => metC_shut (ms := []) (prm (by repeat constructor) _ h)) ?_
  refine XC.reg ?_
  refine XL.mv rfl rfl ?_
  refine XL.call hb_core_FS_touch rfl rfl (core_FS_touch_fn b8 v5 v6 1 _ _) (Tk.take (by repeat constructor)) ?_
  rintro _ _ ⟨rfl, rfl⟩
  simp only [List.cons_append, List.nil_append]
  refine XL.nil ?_
  refine XQ.thenN ?_
  refine XC.seq ?_
  refine XC.reg ?_
  refine XL.mv rfl rfl ?_
  refine XL.as rfl rfl ?_
  refine XL.nil ?_
  refine XQ.thenN ?_
  refine XC.ret ?_
  exact XQ.ret (.inl rfl) rfl (rC (resT rfl) <| rN) [fsc b8 v5 v6 1, mapC v5 encKI [(1, pt b22)], metC v6, ndc b22 (rootN now) (pt b20), dir0 b20] (⟨b8, v5, v6, b22, b20, rfl, rfl⟩) ((prm (by repeat constructor)))

theorem core_FS_spot_fn (f : Nat) (vm vt : Value) (last : Int) (es : List (Int × Value)) (id : Int) (b : Nat) (hb : getM es id = some (pt b)) (n : Nd) (p : Value) (hk : n.kind = 2) (now : Int) (s : List UInt8) (st : Int) (hck : Does P F_name_Check [S s] [] fun u cs => u = I st ∧ cs = []) : Does P F_core_FS_spot [pt f, clV now, I id, S s] [fsc f vm vt last, mapC vm encKI es, ndc b n p] fun u cs => u = .tuple #[pt b, I st] ∧ cs = [fsc f vm vt last, mapC vm encKI es, ndc b n p] := by
  refine Does.mk (N := 25) fn_core_FS_spot rfl rfl rfl (fun F => ?_)
  simp only [List.cons_append, List.nil_append]
  refine XC.seq ?_
  refine XC.reg ?_
  refine XL.bx rfl rfl rfl (fun b5 => ?_)
  refine XL.as rfl rfl ?_
  refine XL.as rfl rfl ?_
  refine XL.nil ?_
  refine XQ.thenN ?_
  refine XC.seq ?_
  refine XC.reg ?_
  refine XL.mv rfl rfl ?_
  refine XL.ldM g_core_Caller rfl (by rfl) rfl ?_
  refine XL.mv rfl rfl ?_
  refine XL.call hb_core_FS_dir rfl rfl (core_FS_dir_fn f vm vt last es id b hb n p hk now 3) (Tk.take (by repeat constructor)) ?_
  rintro _ _ ⟨rfl, rfl⟩
  simp only [List.cons_append, List.nil_append]
  refine XL.mv rfl rfl ?_
  refine XL.ex rfl rfl rfl ?_
  refine XL.ex rfl rfl rfl ?_
  refine XL.as rfl rfl ?_
  refine XL.as rfl rfl ?_
  refine XL.nil ?_
  refine XQ.thenN ?_
  refine XC.seq ?_
  refine XC.seq ?_
  refine XC.reg ?_
  refine XL.mv rfl rfl ?_
  refine XL.bin rfl rfl rfl (bEqI) ?_
  refine XL.nil ?_
  refine XQ.thenN ?_
  refine XC.condT' rfl (rfl) ?_
  refine XC.reg ?_
  refine XL.mv rfl rfl ?_
  refine XL.call hb_name_Check rfl rfl (hck) (tn) ?_
  rintro _ _ ⟨rfl, rfl⟩
  simp only [List.cons_append, List.nil_append]
  refine XL.as rfl rfl ?_
  refine XL.nil ?_
  refine XQ.thenN ?_
  refine XC.seq ?_
  refine XC.reg ?_
  refine XL.mv rfl rfl ?_
  refine XL.mv rfl rfl ?_
  refine XL.as rfl rfl ?_
  refine XL.as rfl rfl ?_
  refine XL.nil ?_
  refine XQ.thenN ?_
  refine XC.ret ?_
  exact XQ.ret (.inl rfl) rfl (rC (resT rfl) <| rC (resT rfl) <| rN) [fsc f vm vt last, mapC vm encKI es, ndc b n p] (⟨rfl, rfl⟩) ((prm (by repeat constructor)))

/-- A file as it is handed to 'add'. -/
@[reducible] def nd0 (kind mode : Int) (verf : List UInt8) : List Value := [I kind, I mode, I 0, I 0, I 0, I 0, I 0, I 0, I 0, I 0, I 0, I 0, I 0, I 0, I 0, I 0, I 0, S [], S verf, I 0, nilP]
@[reducible] def newN (kind mode links id now : Int) (verf : List UInt8) (parent : Int) : Nd := ⟨kind, mode, links, 0, 0, id, now, 0, now, 0, now, 0, [], verf, parent⟩

theorem core_FS_add_file_fn (f : Nat) (vm vt : Value) (last : Int) (es : List (Int × Value)) (b d : Nat) (n : Nd) (s : List UInt8) (hl : 0 ≤ last ∧ last ≤ 1000) (now mode m z : Int) (verf : List UInt8) (hck : Does P F_name_Check [S s] [] fun u cs => u = I 0 ∧ cs = []) : Does P F_core_FS_add [pt f, clV now, pt b, S s, .agg (nd0 1 mode verf).toArray, seV false false m z] [fsc f vm vt last, mapC vm encKI es, metC vt, ndc b n (pt d), dir0 d] fun u cs => ∃ x, u = I (last + 1) ∧ cs = [fsc f vm vt (last + 1), mapC vm encKI (setM es (last + 1) (pt x)), metC vt, ndc b (n.chg now) (pt d), dir1 d s (last + 1), ndc x (newN 1 mode 1 (last + 1) now verf 0) nilP] := by
  refine Does.mk (N := 114) fn_core_FS_add rfl rfl rfl (fun F => ?_)
  simp only [List.cons_append, List.nil_append]
  refine XC.seq ?_
  refine XC.reg ?_
  refine XL.bx rfl rfl rfl (fun b7 => ?_)
  refine XL.bx rfl rfl rfl (fun b10 => ?_)
  refine XL.bx rfl rfl rfl (fun b11 => ?_)
  refine XL.as rfl rfl ?_
  refine XL.nil ?_
  refine XQ.thenN ?_
  refine XC.seq ?_
  refine XC.reg ?_
  refine XL.mv rfl rfl ?_
  refine XL.ncP rfl rfl ?_
  refine XL.fa fo_core_FS_1 rfl rfl ?_
  refine XL.ld o_int rfl (by rfl) rfl ?_
  refine XL.bin rfl rfl rfl (bAdd (by omega)) ?_
  refine XL.ncP rfl rfl ?_
  refine XL.fa fo_core_FS_1 rfl rfl ?_
  refine XL.st o_int rfl rfl rfl ?_
  refine XL.nil ?_
  refine XQ.thenN ?_
  refine XC.seq ?_
  refine XC.reg ?_
  refine XL.mv rfl rfl ?_
  refine XL.ncP rfl rfl ?_
  refine XL.fa fo_core_FS_1 rfl rfl ?_
  refine XL.ld o_int rfl (by rfl) rfl ?_
  refine XL.fa fo_core_Node_0 rfl rfl ?_
  refine XL.fa fo_attr_Attr_10 rfl rfl ?_
  refine XL.st o_int rfl rfl rfl ?_
  refine XL.fa fo_core_Node_0 rfl rfl ?_
  refine XL.fa fo_attr_Attr_9 rfl rfl ?_
  refine XL.st o_int rfl rfl rfl ?_
  refine XL.fa fo_core_Node_0 rfl rfl ?_
  refine XL.fa fo_attr_Attr_2 rfl rfl ?_
  refine XL.st o_int rfl rfl rfl ?_
  refine XL.nil ?_
  refine XQ.thenN ?_
  refine XC.seq ?_
  refine XC.drw (.q 0 <| .q 1 <| .q 2 <| .q 3 <| .q 4 <| .q 5 <| .q 6 <| .q 7 <| .e 8 <| .r 3 <| .r 4 <| .r 5 <| .q 9 <| .q 10 <| .e 11 <| .done) mixed (by kernel_rfl) rfl ?_
  refine JP.qq rfl rfl rfl (XL.fa fo_core_Caller_0 rfl rfl XL.qd) ?_
  refine JP.qq rfl rfl rfl (XL.fa fo_api_Who_0 rfl rfl XL.qd) ?_
  refine JP.qq rfl rfl rfl (XL.ld o_int rfl (by rfl) rfl XL.qd) ?_
  refine JP.qq rfl rfl rfl (XL.fa fo_core_Caller_0 rfl rfl XL.qd) ?_
  refine JP.qq rfl rfl rfl (XL.fa fo_api_Who_1 rfl rfl XL.qd) ?_
  refine JP.qq rfl rfl rfl (XL.ld o_int rfl (by rfl) rfl XL.qd) ?_
  refine JP.qq rfl rfl rfl (XL.fa fo_core_Node_0 rfl rfl XL.qd) ?_
  refine JP.qq rfl rfl rfl (XL.fa fo_attr_Attr_3 rfl rfl XL.qd) ?_
  refine JP.ee rfl ?_
  refine XL.st o_int rfl rfl rfl ?_
  refine XL.edn ?_
  refine JP.rr rfl rfl rfl (XL.fa fo_core_Caller_0 rfl rfl XL.qd) ?_
  refine JP.rr rfl rfl rfl (XL.fa fo_api_Who_1 rfl rfl XL.qd) ?_
  refine JP.rr rfl rfl rfl (XL.ld o_int rfl (by rfl) rfl XL.qd) ?_
  refine JP.qq rfl rfl rfl (XL.fa fo_core_Node_0 rfl rfl XL.qd) ?_
  refine JP.qq rfl rfl rfl (XL.fa fo_attr_Attr_4 rfl rfl XL.qd) ?_
  refine JP.ee rfl ?_
  refine XL.st o_int rfl rfl rfl ?_
  refine XL.edn ?_
  refine JP.done ?_
  refine XQ.thenN ?_
  refine XC.seq ?_
  refine XC.seq ?_
  refine XC.reg ?_
  refine XL.fa fo_core_Caller_0 rfl rfl ?_
  refine XL.fa fo_api_Who_0 rfl rfl ?_
  refine XL.ld o_int rfl (by rfl) rfl ?_
  refine XL.bin rfl rfl rfl (bNeI) ?_
  refine XL.nil ?_
  refine XQ.thenN ?_
  refine XC.condF' rfl (rfl) ?_
  refine XC.skip ?_
  refine XQ.thenN ?_
  refine XC.seq ?_
  refine XC.reg ?_
  refine XL.ldM g_core_Caller rfl (by rfl) rfl ?_
  refine XL.call hb_core_Caller_time rfl rfl (core_Caller_time_fn _) (tn) ?_
  rintro _ _ ⟨rfl, rfl⟩
  simp only [List.cons_append, List.nil_append]
  refine XL.al z_attr_Time rfl (fun b13 => ?_)
  refine XL.stM g_attr_Time rfl rfl rfl (by rfl) rfl ?_
  refine XL.nil ?_
  refine XQ.thenN ?_
  refine XC.seq ?_
  refine XC.drw (.q 0 <| .q 1 <| .q 2 <| .q 3 <| .q 4 <| .e 5 <| .r 1 <| .r 2 <| .q 6 <| .q 7 <| .e 8 <| .r 2 <| .q 9 <| .q 10 <| .e 11 <| .done) mixed (by kernel_rfl) rfl ?_
  refine JP.qq rfl rfl rfl (XL.ldM g_attr_Time rfl (by rfl) rfl XL.qd) ?_
  refine JP.qq rfl rfl rfl (XL.ldM g_attr_Time rfl (by rfl) rfl XL.qd) ?_
  refine JP.qq rfl rfl rfl (XL.ldM g_attr_Time rfl (by rfl) rfl XL.qd) ?_
  refine JP.qq rfl rfl rfl (XL.fa fo_core_Node_0 rfl rfl XL.qd) ?_
  refine JP.qq rfl rfl rfl (XL.fa fo_attr_Attr_11 rfl rfl XL.qd) ?_
  refine JP.ee rfl ?_
  refine XL.stM g_attr_Time rfl rfl rfl (by rfl) rfl ?_
  refine XL.edn ?_
  refine JP.rr rfl rfl rfl (XL.ldM g_attr_Time rfl (by rfl) rfl XL.qd) ?_
  refine JP.rr rfl rfl rfl (XL.ldM g_attr_Time rfl (by rfl) rfl XL.qd) ?_
  refine JP.qq rfl rfl rfl (XL.fa fo_core_Node_0 rfl rfl XL.qd) ?_
  refine JP.qq rfl rfl rfl (XL.fa fo_attr_Attr_12 rfl rfl XL.qd) ?_
  refine JP.ee rfl ?_
  refine XL.stM g_attr_Time rfl rfl rfl (by rfl) rfl ?_
  refine XL.edn ?_
  refine JP.rr rfl rfl rfl (XL.ldM g_attr_Time rfl (by rfl) rfl XL.qd) ?_
  refine JP.qq rfl rfl rfl (XL.fa fo_core_Node_0 rfl rfl XL.qd) ?_
  refine JP.qq rfl rfl rfl (XL.fa fo_attr_Attr_13 rfl rfl XL.qd) ?_
  refine JP.ee rfl ?_
  refine XL.stM g_attr_Time rfl rfl rfl (by rfl) rfl ?_
  refine XL.edn ?_
  refine JP.done ?_
  refine XQ.thenN ?_
  refine XC.seq ?_
  refine XC.seq ?_
  refine XC.reg ?_
  refine XL.fa fo_core_Node_0 rfl rfl ?_
  refine XL.fa fo_attr_Attr_0 rfl rfl ?_
  refine XL.ld o_int rfl (by rfl) rfl ?_
  refine XL.bin rfl rfl rfl (bEqI) ?_
  refine XL.nil ?_
  refine XQ.thenN ?_
  refine XC.condF' rfl (rfl) ?_
  refine XC.skip ?_
  refine XQ.thenN ?_
  refine XC.seq ?_
  refine XC.reg ?_
  refine XL.ldM g_core_Caller rfl (by rfl) rfl ?_
  refine XL.ldM g_attr_Set rfl (by rfl) rfl ?_
  refine XL.call hb_core_Caller_set rfl rfl (core_Caller_set_none_fn b10 (newN 1 mode 1 (last + 1) now verf 0) nilP now m z) (Tk.take (by repeat constructor)) ?_
  rintro _ _ ⟨rfl, rfl⟩
  simp only [List.cons_append, List.nil_append]
  refine XL.nil ?_
  refine XQ.thenN ?_
  refine XC.seq ?_
  refine XC.drw (.q 0 <| .q 1 <| .q 2 <| .q 3 <| .q 4 <| .q 5 <| .q 6 <| .e 7 <| .done) mixed (by kernel_rfl) rfl ?_
  refine JP.qq rfl rfl rfl (XL.mv rfl rfl XL.qd) ?_
  refine JP.qq rfl rfl rfl (XL.ncP rfl rfl XL.qd) ?_
  refine JP.qq rfl rfl rfl (XL.fa fo_core_FS_0 rfl rfl XL.qd) ?_
  refine JP.qq rfl rfl rfl (XL.ld o_M_int_P_core_Node rfl (by rfl) rfl XL.qd) ?_
  refine JP.qq rfl rfl rfl (XL.fa fo_core_Node_0 rfl rfl XL.qd) ?_
  refine JP.qq rfl rfl rfl (XL.fa fo_attr_Attr_10 rfl rfl XL.qd) ?_
  refine JP.qq rfl rfl rfl (XL.ld o_int rfl (by rfl) rfl XL.qd) ?_
  refine JP.ee rfl ?_
  refine XL.muM (last + 1) m_M_int_P_core_Node (keyI u_int) rfl rfl rfl rfl ?_
  refine XL.edn ?_
  refine JP.done ?_
  refine XQ.thenN ?_
  refine XC.seq ?_
  refine XC.drw (.q 0 <| .q 1 <| .q 2 <| .q 3 <| .q 4 <| .q 5 <| .q 6 <| .q 7 <| .e 8 <| .done) mixed (by kernel_rfl) rfl ?_
  refine JP.qq rfl rfl rfl (XL.mv rfl rfl XL.qd) ?_
  refine JP.qq rfl rfl rfl (XL.ncP rfl rfl XL.qd) ?_
  refine JP.qq rfl rfl rfl (XL.fa fo_core_Node_4 rfl rfl XL.qd) ?_
  refine JP.qq rfl rfl rfl (XL.ld o_P_dir_Dir rfl (by rfl) rfl XL.qd) ?_
  refine JP.qq rfl rfl rfl (XL.mv rfl rfl XL.qd) ?_
  refine JP.qq rfl rfl rfl (XL.fa fo_core_Node_0 rfl rfl XL.qd) ?_
  refine JP.qq rfl rfl rfl (XL.fa fo_attr_Attr_10 rfl rfl XL.qd) ?_
  refine JP.qq rfl rfl rfl (XL.ld o_int rfl (by rfl) rfl XL.qd) ?_
  refine JP.ee rfl ?_
  refine XL.call hb_dir_Dir_Add rfl rfl (dir_Dir_Add_fn d s (last + 1) hck) (Tk.take (by repeat constructor)) ?_
  rintro _ _ ⟨rfl, rfl⟩
  simp only [List.cons_append, List.nil_append]
  refine XL.ed ?_
  refine JP.done ?_
  refine XQ.thenN ?_
  refine XC.seq ?_
  refine XC.reg ?_
  refine XL.mv rfl rfl ?_
  refine XL.ldM g_core_Caller rfl (by rfl) rfl ?_
  refine XL.mv rfl rfl ?_
  refine XL.mv rfl rfl ?_
  refine XL.call hb_core_FS_changed rfl rfl (core_FS_changed_fn f vm vt (last + 1) b d (n) now (last + 1) s) (Tk.take (by repeat constructor)) ?_
  rintro _ _ ⟨rfl, rfl⟩
  simp only [List.cons_append, List.nil_append]
  refine XL.nil ?_
  refine XQ.thenN ?_
  refine XC.seq ?_
  refine XC.reg ?_
  refine XL.mv rfl rfl ?_
  refine XL.fa fo_core_Node_0 rfl rfl ?_
  refine XL.fa fo_attr_Attr_10 rfl rfl ?_
  refine XL.ld o_int rfl (by rfl) rfl ?_
  refine XL.call hb_core_FS_touch rfl rfl (core_FS_touch_fn f vm vt (last + 1) _ _) (Tk.take (by repeat constructor)) ?_
  rintro _ _ ⟨rfl, rfl⟩
  simp only [List.cons_append, List.nil_append]
  refine XL.nil ?_
  refine XQ.thenN ?_
  refine XC.seq ?_
  refine XC.reg ?_
  refine XL.fa fo_core_Node_0 rfl rfl ?_
  refine XL.fa fo_attr_Attr_10 rfl rfl ?_
  refine XL.ld o_int rfl (by rfl) rfl ?_
  refine XL.as rfl rfl ?_
  refine XL.nil ?_
  refine XQ.thenN ?_
  refine XC.ret ?_
  exact XQ.ret (.inl rfl) rfl (rC (resT rfl) <| rN) [fsc f vm vt (last + 1), mapC vm encKI (setM es (last + 1) (pt b10)), metC vt, ndc b (n.chg now) (pt d), dir1 d s (last + 1), ndc b10 (newN 1 mode 1 (last + 1) now verf 0) nilP] (⟨b10, rfl, rfl⟩) ((prm (by repeat constructor)))

theorem core_FS_add_dir_fn (f : Nat) (vm vt : Value) (last : Int) (es : List (Int × Value)) (b d : Nat) (n : Nd) (s : List UInt8) (hl : 0 ≤ last ∧ last ≤ 1000) (now mode m z : Int) (verf : List UInt8) (hnl : 0 ≤ n.links ∧ n.links ≤ 1000) (hck : Does P F_name_Check [S s] [] fun u cs => u = I 0 ∧ cs = []) : Does P F_core_FS_add [pt f, clV now, pt b, S s, .agg (nd0 2 mode verf).toArray, seV false false m z] [fsc f vm vt last, mapC vm encKI es, metC vt, ndc b n (pt d), dir0 d] fun u cs => ∃ x y, u = I (last + 1) ∧ cs = [fsc f vm vt (last + 1), mapC vm encKI (setM es (last + 1) (pt x)), metC vt, ndc b ({ n with links := n.links + 1 }.chg now) (pt d), dir1 d s (last + 1), ndc x (newN 2 mode 2 (last + 1) now verf n.id) (pt y), dir0 y] := by
  refine Does.mk (N := 114) fn_core_FS_add rfl rfl rfl (fun F => ?_)
  simp only [List.cons_append, List.nil_append]
  refine XC.seq ?_
  refine XC.reg ?_
  refine XL.bx rfl rfl rfl (fun b7 => ?_)
  refine XL.bx rfl rfl rfl (fun b10 => ?_)
  refine XL.bx rfl rfl rfl (fun b11 => ?_)
  refine XL.as rfl rfl ?_
  refine XL.nil ?_
  refine XQ.thenN ?_
  refine XC.seq ?_
  refine XC.reg ?_
  refine XL.mv rfl rfl ?_
  refine XL.ncP rfl rfl ?_
  refine XL.fa fo_core_FS_1 rfl rfl ?_
  refine XL.ld o_int rfl (by rfl) rfl ?_
  refine XL.bin rfl rfl rfl (bAdd (by omega)) ?_
  refine XL.ncP rfl rfl ?_
  refine XL.fa fo_core_FS_1 rfl rfl ?_
  refine XL.st o_int rfl rfl rfl ?_
  refine XL.nil ?_
  refine XQ.thenN ?_
  refine XC.seq ?_
  refine XC.reg ?_
  refine XL.mv rfl rfl ?_
  refine XL.ncP rfl rfl ?_
  refine XL.fa fo_core_FS_1 rfl rfl ?_
  refine XL.ld o_int rfl (by rfl) rfl ?_
  refine XL.fa fo_core_Node_0 rfl rfl ?_
  refine XL.fa fo_attr_Attr_10 rfl rfl ?_
  refine XL.st o_int rfl rfl rfl ?_
  refine XL.fa fo_core_Node_0 rfl rfl ?_
  refine XL.fa fo_attr_Attr_9 rfl rfl ?_
  refine XL.st o_int rfl rfl rfl ?_
  refine XL.fa fo_core_Node_0 rfl rfl ?_
  refine XL.fa fo_attr_Attr_2 rfl rfl ?_
  refine XL.st o_int rfl rfl rfl ?_
  refine XL.nil ?_
  refine XQ.thenN ?_
  refine XC.seq ?_
  refine XC.drw (.q 0 <| .q 1 <| .q 2 <| .q 3 <| .q 4 <| .q 5 <| .q 6 <| .q 7 <| .e 8 <| .r 3 <| .r 4 <| .r 5 <| .q 9 <| .q 10 <| .e 11 <| .done) mixed (by kernel_rfl) rfl ?_
  refine JP.qq rfl rfl rfl (XL.fa fo_core_Caller_0 rfl rfl XL.qd) ?_
  refine JP.qq rfl rfl rfl (XL.fa fo_api_Who_0 rfl rfl XL.qd) ?_
  refine JP.qq rfl rfl rfl (XL.ld o_int rfl (by rfl) rfl XL.qd) ?_
  refine JP.qq rfl rfl rfl (XL.fa fo_core_Caller_0 rfl rfl XL.qd) ?_
  refine JP.qq rfl rfl rfl (XL.fa fo_api_Who_1 rfl rfl XL.qd) ?_
  refine JP.qq rfl rfl rfl (XL.ld o_int rfl (by rfl) rfl XL.qd) ?_
  refine JP.qq rfl rfl rfl (XL.fa fo_core_Node_0 rfl rfl XL.qd) ?_
  refine JP.qq rfl rfl rfl (XL.fa fo_attr_Attr_3 rfl rfl XL.qd) ?_
  refine JP.ee rfl ?_
  refine XL.st o_int rfl rfl rfl ?_
  refine XL.edn ?_
  refine JP.rr rfl rfl rfl (XL.fa fo_core_Caller_0 rfl rfl XL.qd) ?_
  refine JP.rr rfl rfl rfl (XL.fa fo_api_Who_1 rfl rfl XL.qd) ?_
  refine JP.rr rfl rfl rfl (XL.ld o_int rfl (by rfl) rfl XL.qd) ?_
  refine JP.qq rfl rfl rfl (XL.fa fo_core_Node_0 rfl rfl XL.qd) ?_
  refine JP.qq rfl rfl rfl (XL.fa fo_attr_Attr_4 rfl rfl XL.qd) ?_
  refine JP.ee rfl ?_
  refine XL.st o_int rfl rfl rfl ?_
  refine XL.edn ?_
  refine JP.done ?_
  refine XQ.thenN ?_
  refine XC.seq ?_
  refine XC.seq ?_
  refine XC.reg ?_
  refine XL.fa fo_core_Caller_0 rfl rfl ?_
  refine XL.fa fo_api_Who_0 rfl rfl ?_
  refine XL.ld o_int rfl (by rfl) rfl ?_
  refine XL.bin rfl rfl rfl (bNeI) ?_
  refine XL.nil ?_
  refine XQ.thenN ?_
  refine XC.condF' rfl (rfl) ?_
  refine XC.skip ?_
  refine XQ.thenN ?_
  refine XC.seq ?_
  refine XC.reg ?_
  refine XL.ldM g_core_Caller rfl (by rfl) rfl ?_
  refine XL.call hb_core_Caller_time rfl rfl (core_Caller_time_fn _) (tn) ?_
  rintro _ _ ⟨rfl, rfl⟩
  simp only [List.cons_append, List.nil_append]
  refine XL.al z_attr_Time rfl (fun b13 => ?_)
  refine XL.stM g_attr_Time rfl rfl rfl (by rfl) rfl ?_
  refine XL.nil ?_
  refine XQ.thenN ?_
  refine XC.seq ?_
  refine XC.drw (.q 0 <| .q 1 <| .q 2 <| .q 3 <| .q 4 <| .e 5 <| .r 1 <| .r 2 <| .q 6 <| .q 7 <| .e 8 <| .r 2 <| .q 9 <| .q 10 <| .e 11 <| .done) mixed (by kernel_rfl) rfl ?_
  refine JP.qq rfl rfl rfl (XL.ldM g_attr_Time rfl (by rfl) rfl XL.qd) ?_
  refine JP.qq rfl rfl rfl (XL.ldM g_attr_Time rfl (by rfl) rfl XL.qd) ?_
  refine JP.qq rfl rfl rfl (XL.ldM g_attr_Time rfl (by rfl) rfl XL.qd) ?_
  refine JP.qq rfl rfl rfl (XL.fa fo_core_Node_0 rfl rfl XL.qd) ?_
  refine JP.qq rfl rfl rfl (XL.fa fo_attr_Attr_11 rfl rfl XL.qd) ?_
  refine JP.ee rfl ?_
  refine XL.stM g_attr_Time rfl rfl rfl (by rfl) rfl ?_
  refine XL.edn ?_
  refine JP.rr rfl rfl rfl (XL.ldM g_attr_Time rfl (by rfl) rfl XL.qd) ?_
  refine JP.rr rfl rfl rfl (XL.ldM g_attr_Time rfl (by rfl) rfl XL.qd) ?_
  refine JP.qq rfl rfl rfl (XL.fa fo_core_Node_0 rfl rfl XL.qd) ?_
  refine JP.qq rfl rfl rfl (XL.fa fo_attr_Attr_12 rfl rfl XL.qd) ?_
  refine JP.ee rfl ?_
  refine XL.stM g_attr_Time rfl rfl rfl (by rfl) rfl ?_
  refine XL.edn ?_
  refine JP.rr rfl rfl rfl (XL.ldM g_attr_Time rfl (by rfl) rfl XL.qd) ?_
  refine JP.qq rfl rfl rfl (XL.fa fo_core_Node_0 rfl rfl XL.qd) ?_
  refine JP.qq rfl rfl rfl (XL.fa fo_attr_Attr_13 rfl rfl XL.qd) ?_
  refine JP.ee rfl ?_
  refine XL.stM g_attr_Time rfl rfl rfl (by rfl) rfl ?_
  refine XL.edn ?_
  refine JP.done ?_
  refine XQ.thenN ?_
  refine XC.seq ?_
  refine XC.seq ?_
  refine XC.reg ?_
  refine XL.fa fo_core_Node_0 rfl rfl ?_
  refine XL.fa fo_attr_Attr_0 rfl rfl ?_
  refine XL.ld o_int rfl (by rfl) rfl ?_
  refine XL.bin rfl rfl rfl (bEqI) ?_
  refine XL.nil ?_
  refine XQ.thenN ?_
  refine XC.condT' rfl (rfl) ?_
  refine XC.seq ?_
  refine XC.reg ?_
  refine XL.mv rfl rfl ?_
  refine XL.ncP rfl rfl ?_
  refine XL.fa fo_core_Node_0 rfl rfl ?_
  refine XL.fa fo_attr_Attr_10 rfl rfl ?_
  refine XL.ld o_int rfl (by rfl) rfl ?_
  refine XL.bd z_dir_Dir p_dir_Dir rfl rfl ?_
  refine XL.bx rfl rfl rfl (fun b68 => ?_)
  refine XL.fa fo_core_Node_0 rfl rfl ?_
  refine XL.fa fo_attr_Attr_2 rfl rfl ?_
  refine XL.st o_int rfl rfl rfl ?_
  refine XL.fa fo_core_Node_3 rfl rfl ?_
  refine XL.st o_int rfl rfl rfl ?_
  refine XL.fa fo_core_Node_4 rfl rfl ?_
  refine XL.st o_P_dir_Dir rfl rfl rfl ?_
  refine XL.nil ?_
  refine XQ.thenN ?_
  refine XC.reg ?_
  refine XL.mv rfl rfl ?_
  refine XL.ncP rfl rfl ?_
  refine XL.fa fo_core_Node_0 rfl rfl ?_
  refine XL.fa fo_attr_Attr_2 rfl rfl ?_
  refine XL.ld o_int rfl (by rfl) rfl ?_
  refine XL.bin rfl rfl rfl (bAdd (by omega)) ?_
  refine XL.ncP rfl rfl ?_
  refine XL.fa fo_core_Node_0 rfl rfl ?_
  refine XL.fa fo_attr_Attr_2 rfl rfl ?_
  refine XL.st o_int rfl rfl rfl ?_
  refine XL.nil ?_
  refine XQ.thenN ?_
  refine XC.seq ?_
  refine XC.reg ?_
  refine XL.ldM g_core_Caller rfl (by rfl) rfl ?_
  refine XL.ldM g_attr_Set rfl (by rfl) rfl ?_
  refine XL.call hb_core_Caller_set rfl rfl (core_Caller_set_none_fn b10 (newN 2 mode 2 (last + 1) now verf n.id) (pt b68) now m z) (Tk.take (by repeat constructor)) ?_
  rintro _ _ ⟨rfl, rfl⟩
  simp only [List.cons_append, List.nil_append]
  refine XL.nil ?_
  refine XQ.thenN ?_
  refine XC.seq ?_
  refine XC.drw (.q 0 <| .q 1 <| .q 2 <| .q 3 <| .q 4 <| .q 5 <| .q 6 <| .e 7 <| .done) mixed (by kernel_rfl) rfl ?_
  refine JP.qq rfl rfl rfl (XL.mv rfl rfl XL.qd) ?_
  refine JP.qq rfl rfl rfl (XL.ncP rfl rfl XL.qd) ?_
  refine JP.qq rfl rfl rfl (XL.fa fo_core_FS_0 rfl rfl XL.qd) ?_
  refine JP.qq rfl rfl rfl (XL.ld o_M_int_P_core_Node rfl (by rfl) rfl XL.qd) ?_
  refine JP.qq rfl rfl rfl (XL.fa fo_core_Node_0 rfl rfl XL.qd) ?_
  refine JP.qq rfl rfl rfl (XL.fa fo_attr_Attr_10 rfl rfl XL.qd) ?_
  refine JP.qq rfl rfl rfl (XL.ld o_int rfl (by rfl) rfl XL.qd) ?_
  refine JP.ee rfl ?_
  refine XL.muM (last + 1) m_M_int_P_core_Node (keyI u_int) rfl rfl rfl rfl ?_
  refine XL.edn ?_
  refine JP.done ?_
  refine XQ.thenN ?_
  refine XC.seq ?_
  refine XC.drw (.q 0 <| .q 1 <| .q 2 <| .q 3 <| .q 4 <| .q 5 <| .q 6 <| .q 7 <| .e 8 <| .done) mixed (by kernel_rfl) rfl ?_
  refine JP.qq rfl rfl rfl (XL.mv rfl rfl XL.qd) ?_
  refine JP.qq rfl rfl rfl (XL.ncP rfl rfl XL.qd) ?_
  refine JP.qq rfl rfl rfl (XL.fa fo_core_Node_4 rfl rfl XL.qd) ?_
  refine JP.qq rfl rfl rfl (XL.ld o_P_dir_Dir rfl (by rfl) rfl XL.qd) ?_
  refine JP.qq rfl rfl rfl (XL.mv rfl rfl XL.qd) ?_
  refine JP.qq rfl rfl rfl (XL.fa fo_core_Node_0 rfl rfl XL.qd) ?_
  refine JP.qq rfl rfl rfl (XL.fa fo_attr_Attr_10 rfl rfl XL.qd) ?_
  refine JP.qq rfl rfl rfl (XL.ld o_int rfl (by rfl) rfl XL.qd) ?_
  refine JP.ee rfl ?_
  refine XL.call hb_dir_Dir_Add rfl rfl (dir_Dir_Add_fn d s (last + 1) hck) (Tk.take (by repeat constructor)) ?_
  rintro _ _ ⟨rfl, rfl⟩
  simp only [List.cons_append, List.nil_append]
  refine XL.ed ?_
  refine JP.done ?_
  refine XQ.thenN ?_
  refine XC.seq ?_
  refine XC.reg ?_
  refine XL.mv rfl rfl ?_
  refine XL.ldM g_core_Caller rfl (by rfl) rfl ?_
  refine XL.mv rfl rfl ?_
  refine XL.mv rfl rfl ?_
  refine XL.call hb_core_FS_changed rfl rfl (core_FS_changed_fn f vm vt (last + 1) b d ({ n with links := n.links + 1 }) now (last + 1) s) (Tk.take (by repeat constructor)) ?_
  rintro _ _ ⟨rfl, rfl⟩
  simp only [List.cons_append, List.nil_append]
  refine XL.nil ?_
  refine XQ.thenN ?_
  refine XC.seq ?_
  refine XC.reg ?_
  refine XL.mv rfl rfl ?_
  refine XL.fa fo_core_Node_0 rfl rfl ?_
  refine XL.fa fo_attr_Attr_10 rfl rfl ?_
  refine XL.ld o_int rfl (by rfl) rfl ?_
  refine XL.call hb_core_FS_touch rfl rfl (core_FS_touch_fn f vm vt (last + 1) _ _) (Tk.take (by repeat constructor)) ?_
  rintro _ _ ⟨rfl, rfl⟩
  simp only [List.cons_append, List.nil_append]
  refine XL.nil ?_
  refine XQ.thenN ?_
  refine XC.seq ?_
  refine XC.reg ?_
  refine XL.fa fo_core_Node_0 rfl rfl ?_
  refine XL.fa fo_attr_Attr_10 rfl rfl ?_
  refine XL.ld o_int rfl (by rfl) rfl ?_
  refine XL.as rfl rfl ?_
  refine XL.nil ?_
  refine XQ.thenN ?_
  refine XC.ret ?_
  exact XQ.ret (.inl rfl) rfl (rC (resT rfl) <| rN) [fsc f vm vt (last + 1), mapC vm encKI (setM es (last + 1) (pt b10)), metC vt, ndc b ({ n with links := n.links + 1 }.chg now) (pt d), dir1 d s (last + 1), ndc b10 (newN 2 mode 2 (last + 1) now verf n.id) (pt b68), dir0 b68] (⟨b10, b68, rfl, rfl⟩) ((prm (by repeat constructor)))
end Go.Proofs.YteeiccjglmehcaaGreat
