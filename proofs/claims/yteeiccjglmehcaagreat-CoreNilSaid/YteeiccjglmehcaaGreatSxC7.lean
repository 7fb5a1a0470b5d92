/-
  Package dir: directories of no name or one. Printed by mk.py out of spec_core7.py.
-/
import Derived.Test.YteeiccjglmehcaaGreatSxC6
namespace Go.Proofs.YteeiccjglmehcaaGreat
open Go Go.Sx

theorem dir_tree_string_dir_Entry_get_none_fn (d : Nat) (tc : Value) (n1 n2 g : Int) (s : List UInt8) : Does P F_dir_tree_string_dir_Entry_get [pt d, S s] [dr d nilP tc n1 n2 g] fun u cs => u = .tuple #[.agg (encE ([], 0, 0)).toArray, B false] ∧ cs = [dr d nilP tc n1 n2 g] := by
  refine Does.mk (N := 45) fn_dir_tree_string_dir_Entry_get rfl rfl rfl (fun F => ?_)
  simp only [List.cons_append, List.nil_append]
  refine XC.seq ?_
  refine XC.reg ?_
  refine XL.al z_dir_Entry rfl (fun b4 => ?_)
  refine XL.as rfl rfl ?_
  refine XL.nil ?_
  refine XQ.thenN ?_
  refine XC.seq ?_
  refine XC.seq ?_
  refine XC.reg ?_
  refine XL.mv rfl rfl ?_
  refine XL.ncP rfl rfl ?_
  refine XL.fa fo_dir_tree_string_dir_Entry_0 rfl rfl ?_
  refine XL.ld o_P_dir_node_string_dir_Entry rfl (by rfl) rfl ?_
  refine XL.as rfl rfl ?_
  refine XL.nil ?_
  refine XQ.thenN ?_
  refine XC.block ?_
  refine XC.loop (ι := Unit) (fun _ => [(0, pt d), (1, S s), (4, pt b4), (6, nilP)]) (fun _ => [blk b4 (encE ([], 0, 0)) T_dir_Entry, dr d nilP tc n1 n2 g, F]) (fun _ => True) (fun _ => 0) () trivial ⟨rfl, rfl, rfl, rfl, trivial⟩ (prm (by repeat constructor)) (fun _ _ => ?_)
  refine XC.seq ?_
  refine XC.seq ?_
  refine XC.reg ?_
  refine XL.mv rfl rfl ?_
  refine XL.bin rfl rfl rfl (bNePT u_P_dir_node_string_dir_Entry) ?_
  refine XL.nil ?_
  refine XQ.thenN ?_
  refine XC.condF' rfl (rfl) ?_
  refine XC.exit ?_
  refine XQ.thenE ?_
  refine XQ.thenE ?_
  refine XQ.blkE ?_
  refine XQ.thenN ?_
  refine XC.seq ?_
  refine XC.reg ?_
  refine XL.ldM g_dir_Entry rfl (by rfl) rfl ?_
  refine XL.stM g_dir_Entry rfl rfl rfl (by rfl) rfl ?_
  refine XL.as rfl rfl ?_
  refine XL.nil ?_
  refine XQ.thenN ?_
  refine XC.ret ?_
  exact XQ.ret (.inl rfl) rfl (rC (resN g_dir_Entry rfl rfl rfl) <| rC (resT rfl) <| rN) [dr d nilP tc n1 n2 g] (⟨rfl, rfl⟩) ((prm (by repeat constructor)))

theorem dir_tree_string_dir_Entry_get_one_fn (d : Nat) (tc : Value) (n1 n2 g : Int) (b : Nat) (s : List UInt8) (id c : Int) : Does P F_dir_tree_string_dir_Entry_get [pt d, S s] [dr d (pt b) tc n1 n2 g, lfS b s id c] fun u cs => u = .tuple #[.agg (encE (s, id, c)).toArray, B true] ∧ cs = [dr d (pt b) tc n1 n2 g, lfS b s id c] := by
  refine Does.mk (N := 45) fn_dir_tree_string_dir_Entry_get rfl rfl rfl (fun F => ?_)
  simp only [List.cons_append, List.nil_append]
  unfold lfS
  refine XC.opn t1 ?_
  rintro ⟨k, v⟩
  dsimp only [List.cons_append, List.nil_append]
  refine XC.seq ?_
  refine XC.reg ?_
  refine XL.al z_dir_Entry rfl (fun b4 => ?_)
  refine XL.as rfl rfl ?_
  refine XL.nil ?_
  refine XQ.thenN ?_
  refine XC.seq ?_
  refine XC.seq ?_
  refine XC.reg ?_
  refine XL.mv rfl rfl ?_
  refine XL.ncP rfl rfl ?_
  refine XL.fa fo_dir_tree_string_dir_Entry_0 rfl rfl ?_
  refine XL.ld o_P_dir_node_string_dir_Entry rfl (by rfl) rfl ?_
  refine XL.as rfl rfl ?_
  refine XL.nil ?_
  refine XQ.thenN ?_
  refine XC.block ?_
  refine XC.loop (ι := Unit) (fun _ => [(0, pt d), (1, S s), (4, pt b4), (6, pt b)]) (fun _ => [blk b4 (encE ([], 0, 0)) T_dir_Entry, dr d (pt b) tc n1 n2 g, blk b [k, v, nilS] T_dir_node_string_dir_Entry, sl k encS [s] T_string 1, sl v encE [(s, id, c)] T_dir_Entry 3, F]) (fun _ => True) (fun _ => 0) () trivial ⟨rfl, rfl, rfl, rfl, trivial⟩ (prm (by repeat constructor)) (fun _ _ => ?_)
  refine XC.seq ?_
  refine XC.seq ?_
  refine XC.reg ?_
  refine XL.mv rfl rfl ?_
  refine XL.bin rfl rfl rfl (bNePF u_P_dir_node_string_dir_Entry) ?_
  refine XL.nil ?_
  refine XQ.thenN ?_
  refine XC.condT' rfl (rfl) ?_
  refine XC.skip ?_
  refine XQ.thenN ?_
  refine XC.block ?_
  refine XC.seq ?_
  refine XC.reg ?_
  refine XL.mv rfl rfl ?_
  refine XL.ncP rfl rfl ?_
  refine XL.fa fo_dir_node_string_dir_Entry_0 rfl rfl ?_
  refine XL.ld o_L_string rfl (by rfl) rfl ?_
  refine XL.mv rfl rfl ?_
  refine XL.call hb_slices_BinarySearch_L_string_string rfl rfl (slices_BinarySearch_L_string_string_same_fn k s) (Tk.take (by repeat constructor)) ?_
  rintro _ _ ⟨rfl, rfl⟩
  simp only [List.cons_append, List.nil_append]
  refine XL.mv rfl rfl ?_
  refine XL.ex rfl rfl rfl ?_
  refine XL.ex rfl rfl rfl ?_
  refine XL.as rfl rfl ?_
  refine XL.as rfl rfl ?_
  refine XL.nil ?_
  refine XQ.thenN ?_
  refine XC.seq ?_
  refine XC.seq ?_
  refine XC.reg ?_
  refine XL.mv rfl rfl ?_
  refine XL.nil ?_
  refine XQ.thenN ?_
  refine XC.condT' rfl (rfl) ?_
  refine XC.seq ?_
  refine XC.reg ?_
  refine XL.mv rfl rfl ?_
  refine XL.ncP rfl rfl ?_
  refine XL.fa fo_dir_node_string_dir_Entry_1 rfl rfl ?_
  refine XL.ld o_L_dir_Entry rfl (by rfl) rfl ?_
  refine XL.mv rfl rfl ?_
  refine XL.ixS 0 e_L_dir_Entry rfl rfl rfl (by simp) rfl (fun b30 _ => ?_)
  refine XL.ldSN g_dir_Entry rfl (by simp) rfl ?_
  refine XL.stM g_dir_Entry rfl rfl rfl (by rfl) rfl ?_
  refine XL.as rfl rfl ?_
  refine XL.nil ?_
  refine XQ.thenN ?_
  refine XC.ret ?_
  refine XQ.thenR ?_
  refine XQ.blkR ?_
  refine XQ.thenR ?_
  refine XQ.blkR ?_
  refine XQ.thenR ?_
  exact XQ.ret (.inl rfl) rfl (rC (resN g_dir_Entry rfl rfl rfl) <| rC (resT rfl) <| rN) [dr d (pt b) tc n1 n2 g, lfS b s id c] (⟨rfl, rfl⟩) (fun w h => Sat.perm t1 (lfS_shut (k := k) (v := v) (r := [dr d (pt b) tc n1 n2 g, F]) (prm (by repeat constructor) _ h)))

theorem dir_tree_string_dir_Entry_height_fn (d : Nat) (tc : Value) (n1 n2 g : Int) (b : Nat) (s : List UInt8) (id c : Int) : Does P F_dir_tree_string_dir_Entry_height [pt d] [dr d (pt b) tc n1 n2 g, lfS b s id c] fun u cs => u = I 1 ∧ cs = [dr d (pt b) tc n1 n2 g, lfS b s id c] := by
  refine Does.mk (N := 27) fn_dir_tree_string_dir_Entry_height rfl rfl rfl (fun F => ?_)
  simp only [List.cons_append, List.nil_append]
  unfold lfS
  refine XC.opn t1 ?_
  rintro ⟨k, v⟩
  dsimp only [List.cons_append, List.nil_append]
  refine XC.seq ?_
  refine XC.reg ?_
  refine XL.as rfl rfl ?_
  refine XL.nil ?_
  refine XQ.thenN ?_
  refine XC.seq ?_
  refine XC.reg ?_
  refine XL.as rfl rfl ?_
  refine XL.nil ?_
  refine XQ.thenN ?_
  refine XC.seq ?_
  refine XC.seq ?_
  refine XC.reg ?_
  refine XL.mv rfl rfl ?_
  refine XL.ncP rfl rfl ?_
  refine XL.fa fo_dir_tree_string_dir_Entry_0 rfl rfl ?_
  refine XL.ld o_P_dir_node_string_dir_Entry rfl (by rfl) rfl ?_
  refine XL.as rfl rfl ?_
  refine XL.nil ?_
  refine XQ.thenN ?_
  refine XC.block ?_
  refine XC.loop (ι := Unit) (fun _ => [(3, I 0), (4, pt b)]) (fun _ => [dr d (pt b) tc n1 n2 g, blk b [k, v, nilS] T_dir_node_string_dir_Entry, sl k encS [s] T_string 1, sl v encE [(s, id, c)] T_dir_Entry 3, F]) (fun _ => True) (fun _ => 0) () trivial ⟨rfl, rfl, trivial⟩ (prm (by repeat constructor)) (fun _ _ => ?_)
  refine XC.seq ?_
  refine XC.seq ?_
  refine XC.reg ?_
  refine XL.mv rfl rfl ?_
  refine XL.bin rfl rfl rfl (bNePF u_P_dir_node_string_dir_Entry) ?_
  refine XL.nil ?_
  refine XQ.thenN ?_
  refine XC.condT' rfl (rfl) ?_
  refine XC.skip ?_
  refine XQ.thenN ?_
  refine XC.seq ?_
  refine XC.block ?_
  refine XC.seq ?_
  refine XC.seq ?_
  refine XC.reg ?_
  refine XL.mv rfl rfl ?_
  refine XL.ncP rfl rfl ?_
  refine XL.fa fo_dir_node_string_dir_Entry_2 rfl rfl ?_
  refine XL.ld o_L_P_dir_node_string_dir_Entry rfl (by rfl) rfl ?_
  refine XL.bin rfl rfl rfl (bEqSlT u_L_P_dir_node_string_dir_Entry) ?_
  refine XL.nil ?_
  refine XQ.thenN ?_
  refine XC.condT' rfl (rfl) ?_
  refine XC.seq ?_
  refine XC.reg ?_
  refine XL.mv rfl rfl ?_
  refine XL.bin rfl rfl rfl (bAdd (by omega)) ?_
  refine XL.as rfl rfl ?_
  refine XL.nil ?_
  refine XQ.thenN ?_
  refine XC.ret ?_
  refine XQ.thenR ?_
  refine XQ.blkR ?_
  refine XQ.thenR ?_
  refine XQ.thenR ?_
  refine XQ.blkR ?_
  refine XQ.thenR ?_
  exact XQ.ret (.inl rfl) rfl (rC (resT rfl) <| rN) [dr d (pt b) tc n1 n2 g, lfS b s id c] (⟨rfl, rfl⟩) (fun w h => Sat.perm t1 (lfS_shut (k := k) (v := v) (r := [dr d (pt b) tc n1 n2 g, F]) (prm (by repeat constructor) _ h)))

theorem dir_tree_int_string_height_fn (d : Nat) (tn : Value) (n1 n2 g : Int) (b : Nat) (s : List UInt8) (c : Int) : Does P F_dir_tree_int_string_height [.pointer (some ⟨d, 2, none⟩)] [dr d tn (pt b) n1 n2 g, lfI b c s] fun u cs => u = I 1 ∧ cs = [dr d tn (pt b) n1 n2 g, lfI b c s] := by
  refine Does.mk (N := 27) fn_dir_tree_int_string_height rfl rfl rfl (fun F => ?_)
  simp only [List.cons_append, List.nil_append]
  unfold lfI
  refine XC.opn t1 ?_
  rintro ⟨k, v⟩
  dsimp only [List.cons_append, List.nil_append]
  refine XC.seq ?_
  refine XC.reg ?_
  refine XL.as rfl rfl ?_
  refine XL.nil ?_
  refine XQ.thenN ?_
  refine XC.seq ?_
  refine XC.reg ?_
  refine XL.as rfl rfl ?_
  refine XL.nil ?_
  refine XQ.thenN ?_
  refine XC.seq ?_
  refine XC.seq ?_
  refine XC.reg ?_
  refine XL.mv rfl rfl ?_
  refine XL.ncP rfl rfl ?_
  refine XL.fa fo_dir_tree_int_string_0 rfl rfl ?_
  refine XL.ld o_P_dir_node_int_string rfl (by rfl) rfl ?_
  refine XL.as rfl rfl ?_
  refine XL.nil ?_
  refine XQ.thenN ?_
  refine XC.block ?_
  refine XC.loop (ι := Unit) (fun _ => [(3, I 0), (4, pt b)]) (fun _ => [dr d tn (pt b) n1 n2 g, blk b [k, v, nilS] T_dir_node_int_string, sl k encN [c] T_int 1, sl v encS [s] T_string 1, F]) (fun _ => True) (fun _ => 0) () trivial ⟨rfl, rfl, trivial⟩ (prm (by repeat constructor)) (fun _ _ => ?_)
  refine XC.seq ?_
  refine XC.seq ?_
  refine XC.reg ?_
  refine XL.mv rfl rfl ?_
  refine XL.bin rfl rfl rfl (bNePF u_P_dir_node_int_string) ?_
  refine XL.nil ?_
  refine XQ.thenN ?_
  refine XC.condT' rfl (rfl) ?_
  refine XC.skip ?_
  refine XQ.thenN ?_
  refine XC.seq ?_
  refine XC.block ?_
  refine XC.seq ?_
  refine XC.seq ?_
  refine XC.reg ?_
  refine XL.mv rfl rfl ?_
  refine XL.ncP rfl rfl ?_
  refine XL.fa fo_dir_node_int_string_2 rfl rfl ?_
  refine XL.ld o_L_P_dir_node_int_string rfl (by rfl) rfl ?_
  refine XL.bin rfl rfl rfl (bEqSlT u_L_P_dir_node_int_string) ?_
  refine XL.nil ?_
  refine XQ.thenN ?_
  refine XC.condT' rfl (rfl) ?_
  refine XC.seq ?_
  refine XC.reg ?_
  refine XL.mv rfl rfl ?_
  refine XL.bin rfl rfl rfl (bAdd (by omega)) ?_
  refine XL.as rfl rfl ?_
  refine XL.nil ?_
  refine XQ.thenN ?_
  refine XC.ret ?_
  refine XQ.thenR ?_
  refine XQ.blkR ?_
  refine XQ.thenR ?_
  refine XQ.thenR ?_
  refine XQ.blkR ?_
  refine XQ.thenR ?_
  exact XQ.ret (.inl rfl) rfl (rC (resT rfl) <| rN) [dr d tn (pt b) n1 n2 g, lfI b c s] (⟨rfl, rfl⟩) (fun w h => Sat.perm t1 (lfI_shut (k := k) (v := v) (r := [dr d tn (pt b) n1 n2 g, F]) (prm (by repeat constructor) _ h)))

theorem dir1_shut {d b1 b2 : Nat} {s : List UInt8} {id : Int} {r : List Chunk} {w : World} (h : Sat ([dr d (pt b1) (pt b2) 1 1 3, lfS b1 s id 3, lfI b2 3 s] ++ r) w) : Sat (dir1 d s id :: r) w :=
  Sat.shut (f := fun z : Nat × Nat => [dr d (pt z.1) (pt z.2) 1 1 3, lfS z.1 s id 3, lfI z.2 3 s]) (b1, b2) h

theorem dir_Dir_Get_none_fn (d : Nat) (s : List UInt8) : Does P F_dir_Dir_Get [pt d, S s] [dir0 d] fun u cs => u = .tuple #[.agg (encE ([], 0, 0)).toArray, B false] ∧ cs = [dir0 d] := by
  refine Does.mk (N := 16) fn_dir_Dir_Get rfl rfl rfl (fun F => ?_)
  simp only [List.cons_append, List.nil_append]
  unfold dir0
  refine XC.seq ?_
  refine XC.reg ?_
  refine XL.al z_dir_Entry rfl (fun b4 => ?_)
  refine XL.as rfl rfl ?_
  refine XL.nil ?_
  refine XQ.thenN ?_
  refine XC.seq ?_
  refine XC.seq ?_
  refine XC.reg ?_
  refine XL.mv rfl rfl ?_
  refine XL.bin rfl rfl rfl (bEqPF u_P_dir_Dir) ?_
  refine XL.nil ?_
  refine XQ.thenN ?_
  refine XC.condF' rfl (rfl) ?_
  refine XC.skip ?_
  refine XQ.thenN ?_
  refine XC.seq ?_
  refine XC.reg ?_
  refine XL.mv rfl rfl ?_
  refine XL.ncP rfl rfl ?_
  refine XL.fa fo_dir_Dir_0 rfl rfl ?_
  refine XL.mv rfl rfl ?_
  refine XL.call hb_dir_tree_string_dir_Entry_get rfl rfl (dir_tree_string_dir_Entry_get_none_fn d nilP 0 0 0 s) (Tk.take (by repeat constructor)) ?_
  rintro _ _ ⟨rfl, rfl⟩
  simp only [List.cons_append, List.nil_append]
  refine XL.ex rfl rfl rfl ?_
  refine XL.ex rfl rfl rfl ?_
  refine XL.stM g_dir_Entry rfl rfl rfl (by rfl) rfl ?_
  refine XL.as rfl rfl ?_
  refine XL.nil ?_
  refine XQ.thenN ?_
  refine XC.ret ?_
  exact XQ.ret (.inl rfl) rfl (rC (resN g_dir_Entry rfl rfl rfl) <| rC (resT rfl) <| rN) [dir0 d] (⟨rfl, rfl⟩) ((prm (by repeat constructor)))

theorem dir_Dir_Get_one_fn (d : Nat) (s : List UInt8) (id : Int) : Does P F_dir_Dir_Get [pt d, S s] [dir1 d s id] fun u cs => u = .tuple #[.agg (encE (s, id, 3)).toArray, B true] ∧ cs = [dir1 d s id] := by
  refine Does.mk (N := 16) fn_dir_Dir_Get rfl rfl rfl (fun F => ?_)
  simp only [List.cons_append, List.nil_append]
  unfold dir1
  refine XC.opn t0 ?_
  rintro ⟨b1, b2⟩
  dsimp only [List.cons_append, List.nil_append]
  refine XC.seq ?_
  refine XC.reg ?_
  refine XL.al z_dir_Entry rfl (fun b4 => ?_)
  refine XL.as rfl rfl ?_
  refine XL.nil ?_
  refine XQ.thenN ?_
  refine XC.seq ?_
  refine XC.seq ?_
  refine XC.reg ?_
  refine XL.mv rfl rfl ?_
  refine XL.bin rfl rfl rfl (bEqPF u_P_dir_Dir) ?_
  refine XL.nil ?_
  refine XQ.thenN ?_
  refine XC.condF' rfl (rfl) ?_
  refine XC.skip ?_
  refine XQ.thenN ?_
  refine XC.seq ?_
  refine XC.reg ?_
  refine XL.mv rfl rfl ?_
  refine XL.ncP rfl rfl ?_
  refine XL.fa fo_dir_Dir_0 rfl rfl ?_
  refine XL.mv rfl rfl ?_
  refine XL.call hb_dir_tree_string_dir_Entry_get rfl rfl (dir_tree_string_dir_Entry_get_one_fn d (pt b2) 1 1 3 b1 s id 3) (Tk.take (by repeat constructor)) ?_
  rintro _ _ ⟨rfl, rfl⟩
  simp only [List.cons_append, List.nil_append]
  refine XL.ex rfl rfl rfl ?_
  refine XL.ex rfl rfl rfl ?_
  refine XL.stM g_dir_Entry rfl rfl rfl (by rfl) rfl ?_
  refine XL.as rfl rfl ?_
  refine XL.nil ?_
  refine XQ.thenN ?_
  refine XC.ret ?_
  exact XQ.ret (.inl rfl) rfl (rC (resN g_dir_Entry rfl rfl rfl) <| rC (resT rfl) <| rN) [dir1 d s id] (⟨rfl, rfl⟩) (fun w h => dir1_shut (b1 := b1) (b2 := b2) (r := [F]) (prm (by repeat constructor) _ h))

theorem dir_Dir_free_fn (d : Nat) (s : List UInt8) (hck : Does P F_name_Check [S s] [] fun u cs => u = I 0 ∧ cs = []) : Does P F_dir_Dir_free [pt d, S s] [dir0 d] fun u cs => u = B true ∧ cs = [dir0 d] := by
  refine Does.mk (N := 24) fn_dir_Dir_free rfl rfl rfl (fun F => ?_)
  simp only [List.cons_append, List.nil_append]
  unfold dir0
  refine XC.seq ?_
  refine XC.reg ?_
  refine XL.as rfl rfl ?_
  refine XL.nil ?_
  refine XQ.thenN ?_
  refine XC.seq ?_
  refine XC.seq ?_
  refine XC.reg ?_
  refine XL.mv rfl rfl ?_
  refine XL.bin rfl rfl rfl (bEqPF u_P_dir_Dir) ?_
  refine XL.mv rfl rfl ?_
  refine XL.re 9 (u := .bool false) rfl (rfl) ?_
  refine XL.mv rfl rfl ?_
  refine XL.call hb_name_Check rfl rfl (hck) (tn) ?_
  rintro _ _ ⟨rfl, rfl⟩
  simp only [List.cons_append, List.nil_append]
  refine XL.bin rfl rfl rfl (bNeI) ?_
  refine XL.pkF rfl rfl rfl ?_
  refine XL.nil ?_
  refine XQ.thenN ?_
  refine XC.condF' rfl (rfl) ?_
  refine XC.skip ?_
  refine XQ.thenN ?_
  refine XC.seq ?_
  refine XC.reg ?_
  refine XL.mv rfl rfl ?_
  refine XL.ncP rfl rfl ?_
  refine XL.fa fo_dir_Dir_0 rfl rfl ?_
  refine XL.mv rfl rfl ?_
  refine XL.call hb_dir_tree_string_dir_Entry_get rfl rfl (dir_tree_string_dir_Entry_get_none_fn d nilP 0 0 0 s) (Tk.take (by repeat constructor)) ?_
  rintro _ _ ⟨rfl, rfl⟩
  simp only [List.cons_append, List.nil_append]
  refine XL.mv rfl rfl ?_
  refine XL.ex rfl rfl rfl ?_
  refine XL.ex rfl rfl rfl ?_
  refine XL.al z_dir_Entry rfl (fun b5 => ?_)
  refine XL.stM g_dir_Entry rfl rfl rfl (by rfl) rfl ?_
  refine XL.as rfl rfl ?_
  refine XL.nil ?_
  refine XQ.thenN ?_
  refine XC.seq ?_
  refine XC.reg ?_
  refine XL.mv rfl rfl ?_
  refine XL.notT rfl rfl ?_
  refine XL.as rfl rfl ?_
  refine XL.nil ?_
  refine XQ.thenN ?_
  refine XC.ret ?_
  exact XQ.ret (.inl rfl) rfl (rC (resT rfl) <| rN) [dir0 d] (⟨rfl, rfl⟩) ((prm (by repeat constructor)))

theorem dir_Dir_Next_fn (d : Nat) (tn tc : Value) (n1 n2 g : Int) (hg : 0 ≤ g ∧ g ≤ 1000) : Does P F_dir_Dir_Next [pt d] [dr d tn tc n1 n2 g] fun u cs => u = I (max (g + 1) 3) ∧ cs = [dr d tn tc n1 n2 g] := by
  refine Does.mk (N := 11) fn_dir_Dir_Next rfl rfl rfl (fun F => ?_)
  simp only [List.cons_append, List.nil_append]
  refine XC.seq ?_
  refine XC.reg ?_
  refine XL.as rfl rfl ?_
  refine XL.nil ?_
  refine XQ.thenN ?_
  refine XC.seq ?_
  refine XC.seq ?_
  refine XC.reg ?_
  refine XL.mv rfl rfl ?_
  refine XL.bin rfl rfl rfl (bEqPF u_P_dir_Dir) ?_
  refine XL.nil ?_
  refine XQ.thenN ?_
  refine XC.condF' rfl (rfl) ?_
  refine XC.skip ?_
  refine XQ.thenN ?_
  refine XC.seq ?_
  refine XC.reg ?_
  refine XL.mv rfl rfl ?_
  refine XL.ncP rfl rfl ?_
  refine XL.fa fo_dir_Dir_2 rfl rfl ?_
  refine XL.ld o_int rfl (by rfl) rfl ?_
  refine XL.bin rfl rfl rfl (bAdd (by omega)) ?_
  refine XL.mx rfl rfl rfl ?_
  refine XL.as rfl rfl ?_
  refine XL.nil ?_
  refine XQ.thenN ?_
  refine XC.ret ?_
  exact XQ.ret (.inl rfl) rfl (rC (resT rfl) <| rN) [dr d tn tc n1 n2 g] (⟨rfl, rfl⟩) (fun w h => h)

theorem dir_Dir_lay_fn (d : Nat) (s : List UInt8) (id : Int) : Does P F_dir_Dir_lay [pt d, .agg (encE (s, id, 3)).toArray] [dir0 d] fun u cs => u = .tuple #[] ∧ cs = [dir1 d s id] := by
  refine Does.mk (N := 29) fn_dir_Dir_lay rfl rfl rfl (fun F => ?_)
  simp only [List.cons_append, List.nil_append]
  unfold dir0
  refine XC.seq ?_
  refine XC.reg ?_
  refine XL.bx rfl rfl rfl (fun b3 => ?_)
  refine XL.nil ?_
  refine XQ.thenN ?_
  refine XC.seq ?_
  refine XC.drw (.q 0 <| .q 1 <| .q 2 <| .q 3 <| .q 4 <| .q 5 <| .e 6 <| .done) mixed (by kernel_rfl) rfl ?_
  refine JP.qq rfl rfl rfl (XL.mv rfl rfl XL.qd) ?_
  refine JP.qq rfl rfl rfl (XL.ncP rfl rfl XL.qd) ?_
  refine JP.qq rfl rfl rfl (XL.fa fo_dir_Dir_0 rfl rfl XL.qd) ?_
  refine JP.qq rfl rfl rfl (XL.fa fo_dir_Entry_0 rfl rfl XL.qd) ?_
  refine JP.qq rfl rfl rfl (XL.ld o_string rfl (by rfl) rfl XL.qd) ?_
  refine JP.qq rfl rfl rfl (XL.ldM g_dir_Entry rfl (by rfl) rfl XL.qd) ?_
  refine JP.ee rfl ?_
  refine XL.call hb_dir_tree_string_dir_Entry_put rfl rfl (dir_tree_string_dir_Entry_put_fn d nilP 0 0 s id 3) (Tk.take (by repeat constructor)) ?_
  rintro _ _ ⟨rfl, b1, rfl⟩
  simp only [List.cons_append, List.nil_append]
  refine XL.ed ?_
  refine JP.done ?_
  refine XQ.thenN ?_
  refine XC.seq ?_
  refine XC.drw (.q 0 <| .q 1 <| .q 2 <| .q 3 <| .q 4 <| .q 5 <| .q 6 <| .e 7 <| .done) mixed (by kernel_rfl) rfl ?_
  refine JP.qq rfl rfl rfl (XL.mv rfl rfl XL.qd) ?_
  refine JP.qq rfl rfl rfl (XL.ncP rfl rfl XL.qd) ?_
  refine JP.qq rfl rfl rfl (XL.fa fo_dir_Dir_1 rfl rfl XL.qd) ?_
  refine JP.qq rfl rfl rfl (XL.fa fo_dir_Entry_2 rfl rfl XL.qd) ?_
  refine JP.qq rfl rfl rfl (XL.ld o_int rfl (by rfl) rfl XL.qd) ?_
  refine JP.qq rfl rfl rfl (XL.fa fo_dir_Entry_0 rfl rfl XL.qd) ?_
  refine JP.qq rfl rfl rfl (XL.ld o_string rfl (by rfl) rfl XL.qd) ?_
  refine JP.ee rfl ?_
  refine XL.call hb_dir_tree_int_string_put rfl rfl (dir_tree_int_string_put_fn d (pt b1) 1 0 s 3) (Tk.take (by repeat constructor)) ?_
  rintro _ _ ⟨rfl, b2, rfl⟩
  simp only [List.cons_append, List.nil_append]
  refine XL.ed ?_
  refine JP.done ?_
  refine XQ.thenN ?_
  refine XC.drw (.q 0 <| .q 1 <| .q 2 <| .q 3 <| .q 4 <| .q 5 <| .q 6 <| .q 7 <| .q 8 <| .q 9 <| .e 10 <| .done) mixed (by kernel_rfl) rfl ?_
  refine JP.qq rfl rfl rfl (XL.mv rfl rfl XL.qd) ?_
  refine JP.qq rfl rfl rfl (XL.mv rfl rfl XL.qd) ?_
  refine JP.qq rfl rfl rfl (XL.ncP rfl rfl XL.qd) ?_
  refine JP.qq rfl rfl rfl (XL.fa fo_dir_Dir_2 rfl rfl XL.qd) ?_
  refine JP.qq rfl rfl rfl (XL.ld o_int rfl (by rfl) rfl XL.qd) ?_
  refine JP.qq rfl rfl rfl (XL.fa fo_dir_Entry_2 rfl rfl XL.qd) ?_
  refine JP.qq rfl rfl rfl (XL.ld o_int rfl (by rfl) rfl XL.qd) ?_
  refine JP.qq rfl rfl rfl (XL.mx rfl rfl rfl XL.qd) ?_
  refine JP.qq rfl rfl rfl (XL.ncP rfl rfl XL.qd) ?_
  refine JP.qq rfl rfl rfl (XL.fa fo_dir_Dir_2 rfl rfl XL.qd) ?_
  refine JP.ee rfl ?_
  refine XL.st o_int rfl rfl rfl ?_
  refine XL.edn ?_
  refine JP.done ?_
  exact XQ.ret (.inr rfl) rfl (rN) [dir1 d s id] (⟨rfl, rfl⟩) (fun w h => dir1_shut (b1 := b1) (b2 := b2) (r := [F]) (prm (by repeat constructor) _ h))

theorem dir_Dir_Add_fn (d : Nat) (s : List UInt8) (id : Int) (hck : Does P F_name_Check [S s] [] fun u cs => u = I 0 ∧ cs = []) : Does P F_dir_Dir_Add [pt d, S s, I id] [dir0 d] fun u cs => u = .tuple #[I 3, B true] ∧ cs = [dir1 d s id] := by
  refine Does.mk (N := 23) fn_dir_Dir_Add rfl rfl rfl (fun F => ?_)
  simp only [List.cons_append, List.nil_append]
  refine XC.seq ?_
  refine XC.reg ?_
  refine XL.as rfl rfl ?_
  refine XL.as rfl rfl ?_
  refine XL.nil ?_
  refine XQ.thenN ?_
  refine XC.seq ?_
  refine XC.seq ?_
  refine XC.reg ?_
  refine XL.mv rfl rfl ?_
  refine XL.mv rfl rfl ?_
  refine XL.call hb_dir_Dir_free rfl rfl (dir_Dir_free_fn d s hck) (Tk.take (by repeat constructor)) ?_
  rintro _ _ ⟨rfl, rfl⟩
  simp only [List.cons_append, List.nil_append]
  refine XL.notT rfl rfl ?_
  refine XL.nil ?_
  refine XQ.thenN ?_
  refine XC.condF' rfl (rfl) ?_
  refine XC.skip ?_
  refine XQ.thenN ?_
  refine XC.seq ?_
  refine XC.reg ?_
  refine XL.mv rfl rfl ?_
  refine XL.mv rfl rfl ?_
  refine XL.mv rfl rfl ?_
  refine XL.call hb_dir_Dir_Next rfl rfl (dir_Dir_Next_fn d nilP nilP 0 0 0 (by decide)) (Tk.take (by repeat constructor)) ?_
  rintro _ _ ⟨rfl, rfl⟩
  simp only [List.cons_append, List.nil_append]
  refine XL.bd z_dir_Entry p_dir_Entry rfl rfl ?_
  refine XL.al z_dir_Entry rfl (fun b8 => ?_)
  refine XL.stM g_dir_Entry rfl rfl rfl (by rfl) rfl ?_
  refine XL.nil ?_
  refine XQ.thenN ?_
  refine XC.seq ?_
  refine XC.reg ?_
  refine XL.mv rfl rfl ?_
  refine XL.ldM g_dir_Entry rfl (by rfl) rfl ?_
  refine XL.call hb_dir_Dir_lay rfl rfl (dir_Dir_lay_fn d s id) (Tk.take (by repeat constructor)) ?_
  rintro _ _ ⟨rfl, rfl⟩
  simp only [List.cons_append, List.nil_append]
  refine XL.nil ?_
  refine XQ.thenN ?_
  refine XC.seq ?_
  refine XC.reg ?_
  refine XL.fa fo_dir_Entry_2 rfl rfl ?_
  refine XL.ld o_int rfl (by rfl) rfl ?_
  refine XL.as rfl rfl ?_
  refine XL.as rfl rfl ?_
  refine XL.nil ?_
  refine XQ.thenN ?_
  refine XC.ret ?_
  exact XQ.ret (.inl rfl) rfl (rC (resT rfl) <| rC (resT rfl) <| rN) [dir1 d s id] (⟨rfl, rfl⟩) ((prm (by repeat constructor)))

theorem dir_Dir_Len_fn (d : Nat) (s : List UInt8) (id : Int) : Does P F_dir_Dir_Len [pt d] [dir1 d s id] fun u cs => u = .tuple #[I 1, I 1, I 1] ∧ cs = [dir1 d s id] := by
  refine Does.mk (N := 20) fn_dir_Dir_Len rfl rfl rfl (fun F => ?_)
  simp only [List.cons_append, List.nil_append]
  unfold dir1
  refine XC.opn t0 ?_
  rintro ⟨b1, b2⟩
  dsimp only [List.cons_append, List.nil_append]
  refine XC.seq ?_
  refine XC.reg ?_
  refine XL.as rfl rfl ?_
  refine XL.as rfl rfl ?_
  refine XL.as rfl rfl ?_
  refine XL.nil ?_
  refine XQ.thenN ?_
  refine XC.seq ?_
  refine XC.seq ?_
  refine XC.reg ?_
  refine XL.mv rfl rfl ?_
  refine XL.bin rfl rfl rfl (bEqPF u_P_dir_Dir) ?_
  refine XL.nil ?_
  refine XQ.thenN ?_
  refine XC.condF' rfl (rfl) ?_
  refine XC.skip ?_
  refine XQ.thenN ?_
  refine XC.seq ?_
  refine XC.keep (L' := [(0, pt d)]) ⟨rfl, trivial⟩ ?_
  refine XC.drw (.q 0 <| .q 1 <| .q 2 <| .q 3 <| .q 4 <| .q 5 <| .q 6 <| .q 7 <| .q 8 <| .q 9 <| .q 10 <| .q 11 <| .q 12 <| .q 13 <| .q 14 <| .e 15 <| .done) mixed (by kernel_rfl) rfl ?_
  refine JP.qq rfl rfl rfl (XL.mv rfl rfl XL.qd) ?_
  refine JP.qq rfl rfl rfl (XL.ncP rfl rfl XL.qd) ?_
  refine JP.qq rfl rfl rfl (XL.fa fo_dir_Dir_0 rfl rfl XL.qd) ?_
  refine JP.qq rfl rfl rfl (XL.fa fo_dir_tree_string_dir_Entry_1 rfl rfl XL.qd) ?_
  refine JP.qq rfl rfl rfl (XL.ld o_int rfl (by rfl) rfl XL.qd) ?_
  refine JP.qq rfl rfl rfl (XL.mv rfl rfl XL.qd) ?_
  refine JP.qq rfl rfl rfl (XL.ncP rfl rfl XL.qd) ?_
  refine JP.qq rfl rfl rfl (XL.fa fo_dir_Dir_0 rfl rfl XL.qd) ?_
  refine JP.qq rfl rfl rfl (XL.call hb_dir_tree_string_dir_Entry_height rfl rfl (dir_tree_string_dir_Entry_height_fn d (pt b2) 1 1 3 b1 s id 3) (Tk.take (by repeat constructor)) (by rintro _ _ ⟨rfl, rfl⟩; exact XL.qdp (fun w h => prm (by repeat constructor) _ h))) ?_
  refine JP.qq rfl rfl rfl (XL.mv rfl rfl XL.qd) ?_
  refine JP.qq rfl rfl rfl (XL.ncP rfl rfl XL.qd) ?_
  refine JP.qq rfl rfl rfl (XL.fa fo_dir_Dir_1 rfl rfl XL.qd) ?_
  refine JP.qq rfl rfl rfl (XL.call hb_dir_tree_int_string_height rfl rfl (dir_tree_int_string_height_fn d (pt b1) 1 1 3 b2 s 3) (Tk.take (by repeat constructor)) (by rintro _ _ ⟨rfl, rfl⟩; exact XL.qdp (fun w h => prm (by repeat constructor) _ h))) ?_
  refine JP.qq rfl rfl rfl (XL.as rfl rfl XL.qd) ?_
  refine JP.qq rfl rfl rfl (XL.as rfl rfl XL.qd) ?_
  refine JP.ee rfl ?_
  refine XL.as rfl rfl ?_
  refine XL.ed ?_
  refine JP.done ?_
  refine XQ.thenN ?_
  refine XC.ret ?_
  exact XQ.ret (.inl rfl) rfl (rC (resT rfl) <| rC (resT rfl) <| rC (resT rfl) <| rN) [dir1 d s id] (⟨rfl, rfl⟩) (fun w h => dir1_shut (b1 := b1) (b2 := b2) (r := [F]) (prm (by repeat constructor) _ h))

@[reducible] def Nd.chg (n : Nd) (now : Int) : Nd := { n with size := 1, m0 := now, m1 := 0, c0 := now, c1 := 0 }

theorem core_FS_changed_fn (f : Nat) (vm vt : Value) (last : Int) (b d : Nat) (n : Nd) (now id : Int) (s : List UInt8) : Does P F_core_FS_changed [pt f, clV now, pt b, S s] [fsc f vm vt last, metC vt, ndc b n (pt d), dir1 d s id] fun u cs => u = .tuple #[] ∧ cs = [fsc f vm vt last, metC vt, ndc b (n.chg now) (pt d), dir1 d s id] := by
  refine Does.mk (N := 48) fn_core_FS_changed rfl rfl rfl (fun F => ?_)
  simp only [List.cons_append, List.nil_append]
  refine XC.seq ?_
  refine XC.reg ?_
  refine XL.bx rfl rfl rfl (fun b5 => ?_)
  refine XL.nil ?_
  refine XQ.thenN ?_
  refine XC.seq ?_
  refine XC.reg ?_
  refine XL.mv rfl rfl ?_
  refine XL.mv rfl rfl ?_
  refine XL.ncP rfl rfl ?_
  refine XL.fa fo_core_Node_4 rfl rfl ?_
  refine XL.ld o_P_dir_Dir rfl (by rfl) rfl ?_
  refine XL.call hb_dir_Dir_Len rfl rfl (dir_Dir_Len_fn d s id) (Tk.take (by repeat constructor)) ?_
  rintro _ _ ⟨rfl, rfl⟩
  simp only [List.cons_append, List.nil_append]
  refine XL.mv rfl rfl ?_
  refine XL.ex rfl rfl rfl ?_
  refine XL.ex rfl rfl rfl ?_
  refine XL.ex rfl rfl rfl ?_
  refine XL.ncP rfl rfl ?_
  refine XL.fa fo_core_Node_0 rfl rfl ?_
  refine XL.fa fo_attr_Attr_5 rfl rfl ?_
  refine XL.st o_int rfl rfl rfl ?_
  refine XL.nil ?_
  refine XQ.thenN ?_
  refine XC.seq ?_
  refine XC.drw (.q 0 <| .q 1 <| .q 2 <| .q 3 <| .q 4 <| .q 5 <| .q 6 <| .q 7 <| .q 8 <| .e 9 <| .r 1 <| .q 10 <| .q 11 <| .q 12 <| .e 13 <| .done) mixed (by kernel_rfl) rfl ?_
  refine JP.qq rfl rfl rfl (XL.mv rfl rfl XL.qd) ?_
  refine JP.qq rfl rfl rfl (XL.mv rfl rfl XL.qd) ?_
  refine JP.qq rfl rfl rfl (XL.ldM g_core_Caller rfl (by rfl) rfl XL.qd) ?_
  refine JP.qq rfl rfl rfl (XL.call hb_core_Caller_time rfl rfl (core_Caller_time_fn _) (tn) (by rintro _ _ ⟨rfl, rfl⟩; exact XL.qdp (fun w h => h))) ?_
  refine JP.qq rfl rfl rfl (XL.ldM g_core_Caller rfl (by rfl) rfl XL.qd) ?_
  refine JP.qq rfl rfl rfl (XL.call hb_core_Caller_time rfl rfl (core_Caller_time_fn _) (tn) (by rintro _ _ ⟨rfl, rfl⟩; exact XL.qdp (fun w h => h))) ?_
  refine JP.qq rfl rfl rfl (XL.ncP rfl rfl XL.qd) ?_
  refine JP.qq rfl rfl rfl (XL.fa fo_core_Node_0 rfl rfl XL.qd) ?_
  refine JP.qq rfl rfl rfl (XL.fa fo_attr_Attr_12 rfl rfl XL.qd) ?_
  refine JP.ee rfl ?_
  refine XL.stM g_attr_Time rfl rfl rfl (by rfl) rfl ?_
  refine XL.edn ?_
  refine JP.rr rfl rfl rfl (XL.mv rfl rfl XL.qd) ?_
  refine JP.qq rfl rfl rfl (XL.ncP rfl rfl XL.qd) ?_
  refine JP.qq rfl rfl rfl (XL.fa fo_core_Node_0 rfl rfl XL.qd) ?_
  refine JP.qq rfl rfl rfl (XL.fa fo_attr_Attr_13 rfl rfl XL.qd) ?_
  refine JP.ee rfl ?_
  refine XL.stM g_attr_Time rfl rfl rfl (by rfl) rfl ?_
  refine XL.edn ?_
  refine JP.done ?_
  refine XQ.thenN ?_
  refine XC.seq ?_
  refine XC.reg ?_
  refine XL.mv rfl rfl ?_
  refine XL.mv rfl rfl ?_
  refine XL.ncP rfl rfl ?_
  refine XL.fa fo_core_Node_0 rfl rfl ?_
  refine XL.fa fo_attr_Attr_10 rfl rfl ?_
  refine XL.ld o_int rfl (by rfl) rfl ?_
  refine XL.call hb_core_FS_touch rfl rfl (core_FS_touch_fn f vm vt last _ _) (Tk.take (by repeat constructor)) ?_
  rintro _ _ ⟨rfl, rfl⟩
  simp only [List.cons_append, List.nil_append]
  refine XL.nil ?_
  refine XQ.thenN ?_
  refine XC.reg ?_
  refine XL.mv rfl rfl ?_
  refine XL.mv rfl rfl ?_
  refine XL.ncP rfl rfl ?_
  refine XL.fa fo_core_Node_0 rfl rfl ?_
  refine XL.fa fo_attr_Attr_10 rfl rfl ?_
  refine XL.ld o_int rfl (by rfl) rfl ?_
  refine XL.mv rfl rfl ?_
  refine XL.call hb_core_FS_touch rfl rfl (core_FS_touch_fn f vm vt last _ _) (Tk.take (by repeat constructor)) ?_
  rintro _ _ ⟨rfl, rfl⟩
  simp only [List.cons_append, List.nil_append]
  refine XL.nil ?_
  exact XQ.ret (.inr rfl) rfl (rN) [fsc f vm vt last, metC vt, ndc b (n.chg now) (pt d), dir1 d s id] (⟨rfl, rfl⟩) ((prm (by repeat constructor)))
end Go.Proofs.YteeiccjglmehcaaGreat
