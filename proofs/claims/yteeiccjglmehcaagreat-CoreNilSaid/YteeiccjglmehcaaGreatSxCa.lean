/-
  Package core: nodes, what is read and written. Printed by mk.py out of spec_corea.py.
-/
import Derived.Test.YteeiccjglmehcaaGreatSxC9
namespace Go.Proofs.YteeiccjglmehcaaGreat
open Go Go.Sx

set_option synthInstance.maxSize 4000
set_option synthInstance.maxHeartbeats 200000

theorem slices_Clone_L_string_string_fn (v : Value) (l : List (List UInt8)) (h0 : 0 < l.length) (hl : l.length ≤ 1000000) : Does P F_slices_Clone_L_string_string [v] [sl v encS l T_string 1] fun u cs => cs = [sl u encS l T_string 1, sl v encS l T_string 1] := by
  refine Does.mk (N := 8) fn_slices_Clone_L_string_string rfl rfl rfl (fun F => ?_)
  simp only [List.cons_append, List.nil_append]
  refine XC.isAt v 0 h0 (fun bv _ => ?_)
  refine XC.seq ?_
  refine XC.reg ?_
  refine XL.as rfl rfl ?_
  refine XL.nil ?_
  refine XQ.thenN ?_
  refine XC.seq ?_
  refine XC.seq ?_
  refine XC.reg ?_
  refine XL.mv rfl rfl ?_
  refine XL.bin rfl rfl rfl (bEqSlF u_L_string) ?_
  refine XL.nil ?_
  refine XQ.thenN ?_
  refine XC.condF' rfl (rfl) ?_
  refine XC.skip ?_
  refine XQ.thenN ?_
  refine XC.seq ?_
  refine XC.reg ?_
  refine XL.bs (enc := encS) ([] : List (List UInt8)) e_L_string z_string rfl rfl rfl (by intro x hx; cases hx) rfl (fun v5 _ => ?_)
  refine XL.mv rfl rfl ?_
  refine XL.app l e_L_string e_L_string z_string rfl rfl rfl rfl (fun x _ => rfl) (by simp; omega) rfl (fun v7 _ => ?_)
  refine XL.as rfl rfl ?_
  refine XL.nil ?_
  refine XQ.thenN ?_
  refine XC.ret ?_
  exact XQ.ret (.inl rfl) rfl (rC (resT rfl) <| rN) [sl v7 encS l T_string 1, sl v encS l T_string 1] (rfl) (fun w h => h)

theorem slices_Clone_L_int_int_fn (v : Value) (l : List (Int)) (h0 : 0 < l.length) (hl : l.length ≤ 1000000) : Does P F_slices_Clone_L_int_int [v] [sl v encN l T_int 1] fun u cs => cs = [sl u encN l T_int 1, sl v encN l T_int 1] := by
  refine Does.mk (N := 8) fn_slices_Clone_L_int_int rfl rfl rfl (fun F => ?_)
  simp only [List.cons_append, List.nil_append]
  refine XC.isAt v 0 h0 (fun bv _ => ?_)
  refine XC.seq ?_
  refine XC.reg ?_
  refine XL.as rfl rfl ?_
  refine XL.nil ?_
  refine XQ.thenN ?_
  refine XC.seq ?_
  refine XC.seq ?_
  refine XC.reg ?_
  refine XL.mv rfl rfl ?_
  refine XL.bin rfl rfl rfl (bEqSlF u_L_int) ?_
  refine XL.nil ?_
  refine XQ.thenN ?_
  refine XC.condF' rfl (rfl) ?_
  refine XC.skip ?_
  refine XQ.thenN ?_
  refine XC.seq ?_
  refine XC.reg ?_
  refine XL.bs (enc := encN) ([] : List (Int)) e_L_int z_int rfl rfl rfl (by intro x hx; cases hx) rfl (fun v5 _ => ?_)
  refine XL.mv rfl rfl ?_
  refine XL.app l e_L_int e_L_int z_int rfl rfl rfl rfl (fun x _ => rfl) (by simp; omega) rfl (fun v7 _ => ?_)
  refine XL.as rfl rfl ?_
  refine XL.nil ?_
  refine XQ.thenN ?_
  refine XC.ret ?_
  exact XQ.ret (.inl rfl) rfl (rC (resT rfl) <| rN) [sl v7 encN l T_int 1, sl v encN l T_int 1] (rfl) (fun w h => h)

theorem slices_Clone_L_dir_Entry_dir_Entry_fn (v : Value) (l : List (List UInt8 × Int × Int)) (h0 : 0 < l.length) (hl : l.length ≤ 1000000) : Does P F_slices_Clone_L_dir_Entry_dir_Entry [v] [sl v encE l T_dir_Entry 3] fun u cs => cs = [sl u encE l T_dir_Entry 3, sl v encE l T_dir_Entry 3] := by
  refine Does.mk (N := 8) fn_slices_Clone_L_dir_Entry_dir_Entry rfl rfl rfl (fun F => ?_)
  simp only [List.cons_append, List.nil_append]
  refine XC.isAt v 0 h0 (fun bv _ => ?_)
  refine XC.seq ?_
  refine XC.reg ?_
  refine XL.as rfl rfl ?_
  refine XL.nil ?_
  refine XQ.thenN ?_
  refine XC.seq ?_
  refine XC.seq ?_
  refine XC.reg ?_
  refine XL.mv rfl rfl ?_
  refine XL.bin rfl rfl rfl (bEqSlF u_L_dir_Entry) ?_
  refine XL.nil ?_
  refine XQ.thenN ?_
  refine XC.condF' rfl (rfl) ?_
  refine XC.skip ?_
  refine XQ.thenN ?_
  refine XC.seq ?_
  refine XC.reg ?_
  refine XL.bs (enc := encE) ([] : List (List UInt8 × Int × Int)) e_L_dir_Entry z_dir_Entry rfl rfl rfl (by intro x hx; cases hx) rfl (fun v5 _ => ?_)
  refine XL.mv rfl rfl ?_
  refine XL.app l e_L_dir_Entry e_L_dir_Entry z_dir_Entry rfl rfl rfl rfl (fun x _ => rfl) (by simp; omega) rfl (fun v7 _ => ?_)
  refine XL.as rfl rfl ?_
  refine XL.nil ?_
  refine XQ.thenN ?_
  refine XC.ret ?_
  exact XQ.ret (.inl rfl) rfl (rC (resT rfl) <| rN) [sl v7 encE l T_dir_Entry 3, sl v encE l T_dir_Entry 3] (rfl) (fun w h => h)

theorem dir_node_string_dir_Entry_twin_fn (b : Nat) (s : List UInt8) (id c : Int) : Does P F_dir_node_string_dir_Entry_twin [pt b] [lfS b s id c] fun u cs => ∃ x, u = pt x ∧ cs = [lfS x s id c, lfS b s id c] := by
  refine Does.mk (N := 42) fn_dir_node_string_dir_Entry_twin rfl rfl rfl (fun F => ?_)
  simp only [List.cons_append, List.nil_append]
  unfold lfS
  refine XC.opn t0 ?_
  rintro ⟨k, v⟩
  dsimp only [List.cons_append, List.nil_append]
  refine XC.seq ?_
  refine XC.reg ?_
  refine XL.as rfl rfl ?_
  refine XL.nil ?_
  refine XQ.thenN ?_
  refine XC.seq ?_
  refine XC.seq ?_
  refine XC.reg ?_
  refine XL.mv rfl rfl ?_
  refine XL.bin rfl rfl rfl (bEqPF u_P_dir_node_string_dir_Entry) ?_
  refine XL.nil ?_
  refine XQ.thenN ?_
  refine XC.condF' rfl (rfl) ?_
  refine XC.skip ?_
  refine XQ.thenN ?_
  refine XC.seq ?_
  refine XC.drw (.q 0 <| .q 1 <| .q 2 <| .q 3 <| .q 5 <| .q 6 <| .q 7 <| .q 8 <| .e 4 <| .r 5 <| .r 6 <| .r 7 <| .r 8 <| .e 9 <| .q 10 <| .e 11 <| .e 12 <| .done) mixed (by kernel_rfl) rfl ?_
  refine JP.qq rfl rfl rfl (XL.mv rfl rfl XL.qd) ?_
  refine JP.qq rfl rfl rfl (XL.ncP rfl rfl XL.qd) ?_
  refine JP.qq rfl rfl rfl (XL.fa fo_dir_node_string_dir_Entry_0 rfl rfl XL.qd) ?_
  refine JP.qq rfl rfl rfl (XL.ld o_L_string rfl (by rfl) rfl XL.qd) ?_
  refine JP.qq rfl rfl rfl (XL.mv rfl rfl XL.qd) ?_
  refine JP.qq rfl rfl rfl (XL.ncP rfl rfl XL.qd) ?_
  refine JP.qq rfl rfl rfl (XL.fa fo_dir_node_string_dir_Entry_1 rfl rfl XL.qd) ?_
  refine JP.qq rfl rfl rfl (XL.ld o_L_dir_Entry rfl (by rfl) rfl XL.qd) ?_
  refine JP.ee rfl ?_
  refine XL.call hb_slices_Clone_L_string_string rfl rfl (slices_Clone_L_string_string_fn k [s] (by simp) (by simp)) (Tk.take (by repeat constructor)) ?_
  rintro v12 _ rfl
  simp only [List.cons_append, List.nil_append]
  refine XL.have (fun w h => sl_one h) (fun hv12 => ?_)
  refine XL.ed ?_
  refine JP.rr rfl rfl rfl (XL.mv rfl rfl XL.qd) ?_
  refine JP.rr rfl rfl rfl (XL.ncP rfl rfl XL.qd) ?_
  refine JP.rr rfl rfl rfl (XL.fa fo_dir_node_string_dir_Entry_1 rfl rfl XL.qd) ?_
  refine JP.rr rfl rfl rfl (XL.ld o_L_dir_Entry rfl (by rfl) rfl XL.qd) ?_
  refine JP.ee rfl ?_
  refine XL.call hb_slices_Clone_L_dir_Entry_dir_Entry rfl rfl (slices_Clone_L_dir_Entry_dir_Entry_fn v [(s, id, c)] (by simp) (by simp)) (Tk.take (by repeat constructor)) ?_
  rintro v17 _ rfl
  simp only [List.cons_append, List.nil_append]
  refine XL.have (fun w h => sl_one h) (fun hv17 => ?_)
  refine XL.ed ?_
  refine JP.qq rfl rfl rfl (XL.bd z_dir_node_string_dir_Entry p_dir_node_string_dir_Entry rfl rfl XL.qd) ?_
  refine JP.ee rfl ?_
  refine XL.bx rfl rfl rfl (fun b19 => ?_)
  refine XL.ed ?_
  refine JP.ee rfl ?_
  refine XL.as rfl rfl ?_
  refine XL.ed ?_
  refine JP.done ?_
  refine XQ.thenN ?_
  refine XC.seq ?_
  refine XC.seq ?_
  refine XC.to (cs' := [sl nilS encN [] (T_P_dir_node_string_dir_Entry) 1, blk b19 [v12, v17, nilS] T_dir_node_string_dir_Entry, sl v12 encS [s] T_string 1, sl v17 encE [(s, id, c)] T_dir_Entry 3, blk b [k, v, nilS] T_dir_node_string_dir_Entry, sl k encS [s] T_string 1, sl v encE [(s, id, c)] T_dir_Entry 3, F]) (fun w h => sl_nil (prm (by repeat constructor) _ h)) ?_
  refine XC.reg ?_
  refine XL.mv rfl rfl ?_
  refine XL.ncP rfl rfl ?_
  refine XL.fa fo_dir_node_string_dir_Entry_2 rfl rfl ?_
  refine XL.ld o_L_P_dir_node_string_dir_Entry rfl (by rfl) rfl ?_
  refine XL.lenS e_L_P_dir_node_string_dir_Entry rfl rfl ?_
  refine XL.mv rfl rfl ?_
  refine XL.nil ?_
  refine XQ.thenN ?_
  refine XC.block ?_
  refine XC.loop (ι := Unit) (fun _ => [(3, pt b19), (24, I 0), (25, I 0)]) (fun _ => [blk b19 [v12, v17, nilS] T_dir_node_string_dir_Entry, sl v12 encS [s] T_string 1, sl v17 encE [(s, id, c)] T_dir_Entry 3, blk b [k, v, nilS] T_dir_node_string_dir_Entry, sl k encS [s] T_string 1, sl v encE [(s, id, c)] T_dir_Entry 3, F]) (fun _ => True) (fun _ => 0) () trivial ⟨rfl, rfl, rfl, trivial⟩ (prm (by repeat constructor)) (fun _ _ => ?_)
  refine XC.seq ?_
  refine XC.reg ?_
  refine XL.bin rfl rfl rfl (bLss) ?_
  refine XL.nil ?_
  refine XQ.thenN ?_
  refine XC.seq ?_
  refine XC.condF' rfl (rfl) ?_
  refine XC.exit ?_
  refine XQ.thenE ?_
  refine XQ.thenE ?_
  refine XQ.blkE ?_
  refine XQ.thenN ?_
  refine XC.seq ?_
  refine XC.reg ?_
  refine XL.mv rfl rfl ?_
  refine XL.as rfl rfl ?_
  refine XL.nil ?_
  refine XQ.thenN ?_
  refine XC.ret ?_
  exact XQ.ret (.inl rfl) rfl (rC (resT rfl) <| rN) [lfS b19 s id c, lfS b s id c] (⟨b19, rfl, rfl⟩) (fun w h => lfS_shut (k := v12) (v := v17) (r := [lfS b s id c, F]) (Sat.perm t3.symm (lfS_shut (k := k) (v := v) (r := [blk b19 [v12, v17, nilS] T_dir_node_string_dir_Entry, sl v12 encS [s] T_string 1, sl v17 encE [(s, id, c)] T_dir_Entry 3, F]) (prm (by repeat constructor) _ h))))

theorem dir_node_int_string_twin_fn (b : Nat) (s : List UInt8) (id c : Int) : Does P F_dir_node_int_string_twin [pt b] [lfI b c s] fun u cs => ∃ x, u = pt x ∧ cs = [lfI x c s, lfI b c s] := by
  refine Does.mk (N := 42) fn_dir_node_int_string_twin rfl rfl rfl (fun F => ?_)
  simp only [List.cons_append, List.nil_append]
  unfold lfI
  refine XC.opn t0 ?_
  rintro ⟨k, v⟩
  dsimp only [List.cons_append, List.nil_append]
  refine XC.seq ?_
  refine XC.reg ?_
  refine XL.as rfl rfl ?_
  refine XL.nil ?_
  refine XQ.thenN ?_
  refine XC.seq ?_
  refine XC.seq ?_
  refine XC.reg ?_
  refine XL.mv rfl rfl ?_
  refine XL.bin rfl rfl rfl (bEqPF u_P_dir_node_int_string) ?_
  refine XL.nil ?_
  refine XQ.thenN ?_
  refine XC.condF' rfl (rfl) ?_
  refine XC.skip ?_
  refine XQ.thenN ?_
  refine XC.seq ?_
  refine XC.drw (.q 0 <| .q 1 <| .q 2 <| .q 3 <| .q 5 <| .q 6 <| .q 7 <| .q 8 <| .e 4 <| .r 5 <| .r 6 <| .r 7 <| .r 8 <| .e 9 <| .q 10 <| .e 11 <| .e 12 <| .done) mixed (by kernel_rfl) rfl ?_
  refine JP.qq rfl rfl rfl (XL.mv rfl rfl XL.qd) ?_
  refine JP.qq rfl rfl rfl (XL.ncP rfl rfl XL.qd) ?_
  refine JP.qq rfl rfl rfl (XL.fa fo_dir_node_int_string_0 rfl rfl XL.qd) ?_
  refine JP.qq rfl rfl rfl (XL.ld o_L_int rfl (by rfl) rfl XL.qd) ?_
  refine JP.qq rfl rfl rfl (XL.mv rfl rfl XL.qd) ?_
  refine JP.qq rfl rfl rfl (XL.ncP rfl rfl XL.qd) ?_
  refine JP.qq rfl rfl rfl (XL.fa fo_dir_node_int_string_1 rfl rfl XL.qd) ?_
  refine JP.qq rfl rfl rfl (XL.ld o_L_string rfl (by rfl) rfl XL.qd) ?_
  refine JP.ee rfl ?_
  refine XL.call hb_slices_Clone_L_int_int rfl rfl (slices_Clone_L_int_int_fn k [c] (by simp) (by simp)) (Tk.take (by repeat constructor)) ?_
  rintro v12 _ rfl
  simp only [List.cons_append, List.nil_append]
  refine XL.have (fun w h => sl_one h) (fun hv12 => ?_)
  refine XL.ed ?_
  refine JP.rr rfl rfl rfl (XL.mv rfl rfl XL.qd) ?_
  refine JP.rr rfl rfl rfl (XL.ncP rfl rfl XL.qd) ?_
  refine JP.rr rfl rfl rfl (XL.fa fo_dir_node_int_string_1 rfl rfl XL.qd) ?_
  refine JP.rr rfl rfl rfl (XL.ld o_L_string rfl (by rfl) rfl XL.qd) ?_
  refine JP.ee rfl ?_
  refine XL.call hb_slices_Clone_L_string_string rfl rfl (slices_Clone_L_string_string_fn v [s] (by simp) (by simp)) (Tk.take (by repeat constructor)) ?_
  rintro v17 _ rfl
  simp only [List.cons_append, List.nil_append]
  refine XL.have (fun w h => sl_one h) (fun hv17 => ?_)
  refine XL.ed ?_
  refine JP.qq rfl rfl rfl (XL.bd z_dir_node_int_string p_dir_node_int_string rfl rfl XL.qd) ?_
  refine JP.ee rfl ?_
  refine XL.bx rfl rfl rfl (fun b19 => ?_)
  refine XL.ed ?_
  refine JP.ee rfl ?_
  refine XL.as rfl rfl ?_
  refine XL.ed ?_
  refine JP.done ?_
  refine XQ.thenN ?_
  refine XC.seq ?_
  refine XC.seq ?_
  refine XC.to (cs' := [sl nilS encN [] (T_P_dir_node_int_string) 1, blk b19 [v12, v17, nilS] T_dir_node_int_string, sl v12 encN [c] T_int 1, sl v17 encS [s] T_string 1, blk b [k, v, nilS] T_dir_node_int_string, sl k encN [c] T_int 1, sl v encS [s] T_string 1, F]) (fun w h => sl_nil (prm (by repeat constructor) _ h)) ?_
  refine XC.reg ?_
  refine XL.mv rfl rfl ?_
  refine XL.ncP rfl rfl ?_
  refine XL.fa fo_dir_node_int_string_2 rfl rfl ?_
  refine XL.ld o_L_P_dir_node_int_string rfl (by rfl) rfl ?_
  refine XL.lenS e_L_P_dir_node_int_string rfl rfl ?_
  refine XL.mv rfl rfl ?_
  refine XL.nil ?_
  refine XQ.thenN ?_
  refine XC.block ?_
  refine XC.loop (ι := Unit) (fun _ => [(3, pt b19), (24, I 0), (25, I 0)]) (fun _ => [blk b19 [v12, v17, nilS] T_dir_node_int_string, sl v12 encN [c] T_int 1, sl v17 encS [s] T_string 1, blk b [k, v, nilS] T_dir_node_int_string, sl k encN [c] T_int 1, sl v encS [s] T_string 1, F]) (fun _ => True) (fun _ => 0) () trivial ⟨rfl, rfl, rfl, trivial⟩ (prm (by repeat constructor)) (fun _ _ => ?_)
  refine XC.seq ?_
  refine XC.reg ?_
  refine XL.bin rfl rfl rfl (bLss) ?_
  refine XL.nil ?_
  refine XQ.thenN ?_
  refine XC.seq ?_
  refine XC.condF' rfl (rfl) ?_
  refine XC.exit ?_
  refine XQ.thenE ?_
  refine XQ.thenE ?_
  refine XQ.blkE ?_
  refine XQ.thenN ?_
  refine XC.seq ?_
  refine XC.reg ?_
  refine XL.mv rfl rfl ?_
  refine XL.as rfl rfl ?_
  refine XL.nil ?_
  refine XQ.thenN ?_
  refine XC.ret ?_
  exact XQ.ret (.inl rfl) rfl (rC (resT rfl) <| rN) [lfI b19 c s, lfI b c s] (⟨b19, rfl, rfl⟩) (fun w h => lfI_shut (k := v12) (v := v17) (r := [lfI b c s, F]) (Sat.perm t3.symm (lfI_shut (k := k) (v := v) (r := [blk b19 [v12, v17, nilS] T_dir_node_int_string, sl v12 encN [c] T_int 1, sl v17 encS [s] T_string 1, F]) (prm (by repeat constructor) _ h))))

theorem dir_Dir_Clone_one_fn (d : Nat) (s : List UInt8) (id : Int) : Does P F_dir_Dir_Clone [pt d] [dir1 d s id] fun u cs => ∃ x, u = pt x ∧ cs = [dir1 d s id] := by
  refine Does.mk (N := 35) fn_dir_Dir_Clone rfl rfl rfl (fun F => ?_)
  simp only [List.cons_append, List.nil_append]
  unfold dir1
  refine XC.opn t0 ?_
  rintro ⟨b1, b2⟩
  dsimp only [List.cons_append, List.nil_append]
  refine XC.seq ?_
  refine XC.reg ?_
  refine XL.as rfl rfl ?_
  refine XL.nil ?_
  refine XQ.thenN ?_
  refine XC.seq ?_
  refine XC.seq ?_
  refine XC.reg ?_
  refine XL.mv rfl rfl ?_
  refine XL.bin rfl rfl rfl (bEqPF u_P_dir_Dir) ?_
  refine XL.nil ?_
  refine XQ.thenN ?_
  refine XC.condF' rfl (rfl) ?_
  refine XC.skip ?_
  refine XQ.thenN ?_
  refine XC.seq ?_
  refine XC.keep (L' := [(0, pt d)]) ⟨rfl, trivial⟩ ?_
  refine XC.drw (.q 0 <| .q 1 <| .q 2 <| .q 3 <| .q 4 <| .q 6 <| .q 7 <| .q 8 <| .q 9 <| .q 10 <| .q 12 <| .q 13 <| .q 14 <| .q 15 <| .q 16 <| .q 18 <| .q 19 <| .q 20 <| .q 21 <| .q 22 <| .q 24 <| .q 25 <| .q 26 <| .q 27 <| .e 5 <| .r 6 <| .r 7 <| .r 8 <| .r 9 <| .r 10 <| .r 12 <| .r 13 <| .r 14 <| .r 15 <| .r 16 <| .r 18 <| .r 19 <| .r 20 <| .r 21 <| .r 22 <| .r 24 <| .r 25 <| .r 26 <| .r 27 <| .q 11 <| .e 17 <| .r 6 <| .r 7 <| .r 8 <| .r 9 <| .r 10 <| .r 18 <| .r 19 <| .r 20 <| .r 21 <| .r 22 <| .r 24 <| .r 25 <| .r 26 <| .r 27 <| .r 11 <| .q 23 <| .q 28 <| .e 29 <| .e 30 <| .done) mixed (by kernel_rfl) rfl ?_
  refine JP.qq rfl rfl rfl (XL.mv rfl rfl XL.qd) ?_
  refine JP.qq rfl rfl rfl (XL.ncP rfl rfl XL.qd) ?_
  refine JP.qq rfl rfl rfl (XL.fa fo_dir_Dir_0 rfl rfl XL.qd) ?_
  refine JP.qq rfl rfl rfl (XL.fa fo_dir_tree_string_dir_Entry_0 rfl rfl XL.qd) ?_
  refine JP.qq rfl rfl rfl (XL.ld o_P_dir_node_string_dir_Entry rfl (by rfl) rfl XL.qd) ?_
  refine JP.qq rfl rfl rfl (XL.mv rfl rfl XL.qd) ?_
  refine JP.qq rfl rfl rfl (XL.ncP rfl rfl XL.qd) ?_
  refine JP.qq rfl rfl rfl (XL.fa fo_dir_Dir_0 rfl rfl XL.qd) ?_
  refine JP.qq rfl rfl rfl (XL.fa fo_dir_tree_string_dir_Entry_1 rfl rfl XL.qd) ?_
  refine JP.qq rfl rfl rfl (XL.ld o_int rfl (by rfl) rfl XL.qd) ?_
  refine JP.qq rfl rfl rfl (XL.mv rfl rfl XL.qd) ?_
  refine JP.qq rfl rfl rfl (XL.ncP rfl rfl XL.qd) ?_
  refine JP.qq rfl rfl rfl (XL.fa fo_dir_Dir_1 rfl rfl XL.qd) ?_
  refine JP.qq rfl rfl rfl (XL.fa fo_dir_tree_int_string_0 rfl rfl XL.qd) ?_
  refine JP.qq rfl rfl rfl (XL.ld o_P_dir_node_int_string rfl (by rfl) rfl XL.qd) ?_
  refine JP.qq rfl rfl rfl (XL.mv rfl rfl XL.qd) ?_
  refine JP.qq rfl rfl rfl (XL.ncP rfl rfl XL.qd) ?_
  refine JP.qq rfl rfl rfl (XL.fa fo_dir_Dir_1 rfl rfl XL.qd) ?_
  refine JP.qq rfl rfl rfl (XL.fa fo_dir_tree_int_string_1 rfl rfl XL.qd) ?_
  refine JP.qq rfl rfl rfl (XL.ld o_int rfl (by rfl) rfl XL.qd) ?_
  refine JP.qq rfl rfl rfl (XL.mv rfl rfl XL.qd) ?_
  refine JP.qq rfl rfl rfl (XL.ncP rfl rfl XL.qd) ?_
  refine JP.qq rfl rfl rfl (XL.fa fo_dir_Dir_2 rfl rfl XL.qd) ?_
  refine JP.qq rfl rfl rfl (XL.ld o_int rfl (by rfl) rfl XL.qd) ?_
  refine JP.ee rfl ?_
  refine XL.call hb_dir_node_string_dir_Entry_twin rfl rfl (dir_node_string_dir_Entry_twin_fn b1 s id 3) (Tk.take (by repeat constructor)) ?_
  rintro _ _ ⟨x1, rfl, rfl⟩
  simp only [List.cons_append, List.nil_append]
  refine XL.ed ?_
  refine JP.rr rfl rfl rfl (XL.mv rfl rfl XL.qd) ?_
  refine JP.rr rfl rfl rfl (XL.ncP rfl rfl XL.qd) ?_
  refine JP.rr rfl rfl rfl (XL.fa fo_dir_Dir_0 rfl rfl XL.qd) ?_
  refine JP.rr rfl rfl rfl (XL.fa fo_dir_tree_string_dir_Entry_1 rfl rfl XL.qd) ?_
  refine JP.rr rfl rfl rfl (XL.ld o_int rfl (by rfl) rfl XL.qd) ?_
  refine JP.rr rfl rfl rfl (XL.mv rfl rfl XL.qd) ?_
  refine JP.rr rfl rfl rfl (XL.ncP rfl rfl XL.qd) ?_
  refine JP.rr rfl rfl rfl (XL.fa fo_dir_Dir_1 rfl rfl XL.qd) ?_
  refine JP.rr rfl rfl rfl (XL.fa fo_dir_tree_int_string_0 rfl rfl XL.qd) ?_
  refine JP.rr rfl rfl rfl (XL.ld o_P_dir_node_int_string rfl (by rfl) rfl XL.qd) ?_
  refine JP.rr rfl rfl rfl (XL.mv rfl rfl XL.qd) ?_
  refine JP.rr rfl rfl rfl (XL.ncP rfl rfl XL.qd) ?_
  refine JP.rr rfl rfl rfl (XL.fa fo_dir_Dir_1 rfl rfl XL.qd) ?_
  refine JP.rr rfl rfl rfl (XL.fa fo_dir_tree_int_string_1 rfl rfl XL.qd) ?_
  refine JP.rr rfl rfl rfl (XL.ld o_int rfl (by rfl) rfl XL.qd) ?_
  refine JP.rr rfl rfl rfl (XL.mv rfl rfl XL.qd) ?_
  refine JP.rr rfl rfl rfl (XL.ncP rfl rfl XL.qd) ?_
  refine JP.rr rfl rfl rfl (XL.fa fo_dir_Dir_2 rfl rfl XL.qd) ?_
  refine JP.rr rfl rfl rfl (XL.ld o_int rfl (by rfl) rfl XL.qd) ?_
  refine JP.qq rfl rfl rfl (XL.bd z_dir_tree_string_dir_Entry p_dir_tree_string_dir_Entry rfl rfl XL.qd) ?_
  refine JP.ee rfl ?_
  refine XL.call hb_dir_node_int_string_twin rfl rfl (dir_node_int_string_twin_fn b2 s 0 3) (Tk.take (by repeat constructor)) ?_
  rintro _ _ ⟨x2, rfl, rfl⟩
  simp only [List.cons_append, List.nil_append]
  refine XL.ed ?_
  refine JP.rr rfl rfl rfl (XL.mv rfl rfl XL.qd) ?_
  refine JP.rr rfl rfl rfl (XL.ncP rfl rfl XL.qd) ?_
  refine JP.rr rfl rfl rfl (XL.fa fo_dir_Dir_0 rfl rfl XL.qd) ?_
  refine JP.rr rfl rfl rfl (XL.fa fo_dir_tree_string_dir_Entry_1 rfl rfl XL.qd) ?_
  refine JP.rr rfl rfl rfl (XL.ld o_int rfl (by rfl) rfl XL.qd) ?_
  refine JP.rr rfl rfl rfl (XL.mv rfl rfl XL.qd) ?_
  refine JP.rr rfl rfl rfl (XL.ncP rfl rfl XL.qd) ?_
  refine JP.rr rfl rfl rfl (XL.fa fo_dir_Dir_1 rfl rfl XL.qd) ?_
  refine JP.rr rfl rfl rfl (XL.fa fo_dir_tree_int_string_1 rfl rfl XL.qd) ?_
  refine JP.rr rfl rfl rfl (XL.ld o_int rfl (by rfl) rfl XL.qd) ?_
  refine JP.rr rfl rfl rfl (XL.mv rfl rfl XL.qd) ?_
  refine JP.rr rfl rfl rfl (XL.ncP rfl rfl XL.qd) ?_
  refine JP.rr rfl rfl rfl (XL.fa fo_dir_Dir_2 rfl rfl XL.qd) ?_
  refine JP.rr rfl rfl rfl (XL.ld o_int rfl (by rfl) rfl XL.qd) ?_
  refine JP.rr rfl rfl rfl (XL.bd z_dir_tree_string_dir_Entry p_dir_tree_string_dir_Entry rfl rfl XL.qd) ?_
  refine JP.qq rfl rfl rfl (XL.bd z_dir_tree_int_string p_dir_tree_int_string rfl rfl XL.qd) ?_
  refine JP.qq rfl rfl rfl (XL.bd z_dir_Dir p_dir_Dir rfl rfl XL.qd) ?_
  refine JP.ee rfl ?_
  refine XL.bx rfl rfl rfl (fun b34 => ?_)
  refine XL.ed ?_
  refine JP.ee rfl ?_
  refine XL.as rfl rfl ?_
  refine XL.ed ?_
  refine JP.done ?_
  refine XQ.thenN ?_
  refine XC.ret ?_
  exact XQ.ret (.inl rfl) rfl (rC (resT rfl) <| rN) [dir1 d s id] (⟨b34, rfl, rfl⟩) (fun w h => dir1_shut (b1 := b1) (b2 := b2) (r := [F]) (prm (by repeat constructor) _ h))

theorem dir_Dir_Clone_nil_fn : Does P F_dir_Dir_Clone [nilP] [] fun u cs => u = nilP ∧ cs = [] := by
  refine Does.mk (N := 35) fn_dir_Dir_Clone rfl rfl rfl (fun F => ?_)
  simp only [List.cons_append, List.nil_append]
  refine XC.seq ?_
  refine XC.reg ?_
  refine XL.as rfl rfl ?_
  refine XL.nil ?_
  refine XQ.thenN ?_
  refine XC.seq ?_
  refine XC.seq ?_
  refine XC.reg ?_
  refine XL.mv rfl rfl ?_
  refine XL.bin rfl rfl rfl (bEqPT u_P_dir_Dir) ?_
  refine XL.nil ?_
  refine XQ.thenN ?_
  refine XC.condT' rfl (rfl) ?_
  refine XC.seq ?_
  refine XC.reg ?_
  refine XL.as rfl rfl ?_
  refine XL.nil ?_
  refine XQ.thenN ?_
  refine XC.ret ?_
  refine XQ.thenR ?_
  exact XQ.ret (.inl rfl) rfl (rC (resT rfl) <| rN) [] (⟨rfl, rfl⟩) (fun w h => h)

theorem core_FS_Node_file_fn (f : Nat) (vm vt : Value) (last : Int) (es : List (Int × Value)) (id : Int) (b : Nat) (hb : getM es id = some (pt b)) (n : Nd) : Does P F_core_FS_Node [pt f, I id] [fsc f vm vt last, mapC vm encKI es, ndc b n nilP] fun u cs => u = .tuple #[.agg (nd n nilP).toArray, B true] ∧ cs = [fsc f vm vt last, mapC vm encKI es, ndc b n nilP] := by
  refine Does.mk (N := 32) fn_core_FS_Node rfl rfl rfl (fun F => ?_)
  simp only [List.cons_append, List.nil_append]
  refine XC.seq ?_
  refine XC.reg ?_
  refine XL.al z_core_Node rfl (fun b4 => ?_)
  refine XL.as rfl rfl ?_
  refine XL.nil ?_
  refine XQ.thenN ?_
  refine XC.seq ?_
  refine XC.seq ?_
  refine XC.reg ?_
  refine XL.mv rfl rfl ?_
  refine XL.bin rfl rfl rfl (bEqPF u_P_core_FS) ?_
  refine XL.mv rfl rfl ?_
  refine XL.re 9 (u := .bool false) rfl (rfl) ?_
  refine XL.mv rfl rfl ?_
  refine XL.ncP rfl rfl ?_
  refine XL.fa fo_core_FS_0 rfl rfl ?_
  refine XL.ld o_M_int_P_core_Node rfl (by rfl) rfl ?_
  refine XL.mv rfl rfl ?_
  refine XL.lkV id m_M_int_P_core_Node (keyI u_int) zv_P_core_Node rfl rfl rfl ?_
  simp only [hb, Option.getD_some]
  refine XL.bin rfl rfl rfl (bEqPF u_P_core_Node) ?_
  refine XL.pkF rfl rfl rfl ?_
  refine XL.nil ?_
  refine XQ.thenN ?_
  refine XC.condF' rfl (rfl) ?_
  refine XC.skip ?_
  refine XQ.thenN ?_
  refine XC.seq ?_
  refine XC.reg ?_
  refine XL.mv rfl rfl ?_
  refine XL.ncP rfl rfl ?_
  refine XL.fa fo_core_FS_0 rfl rfl ?_
  refine XL.ld o_M_int_P_core_Node rfl (by rfl) rfl ?_
  refine XL.mv rfl rfl ?_
  refine XL.lkV id m_M_int_P_core_Node (keyI u_int) zv_P_core_Node rfl rfl rfl ?_
  simp only [hb, Option.getD_some]
  refine XL.ncP rfl rfl ?_
  refine XL.ldM g_core_Node rfl (by rfl) rfl ?_
  refine XL.al z_core_Node rfl (fun b6 => ?_)
  refine XL.stM g_core_Node rfl rfl rfl (by rfl) rfl ?_
  refine XL.nil ?_
  refine XQ.thenN ?_
  refine XC.seq ?_
  refine XC.reg ?_
  refine XL.fa fo_core_Node_4 rfl rfl ?_
  refine XL.ld o_P_dir_Dir rfl (by rfl) rfl ?_
  refine XL.call hb_dir_Dir_Clone rfl rfl dir_Dir_Clone_nil_fn tn ?_
  rintro _ _ ⟨rfl, rfl⟩
  simp only [List.cons_append, List.nil_append]
  refine XL.fa fo_core_Node_4 rfl rfl ?_
  refine XL.st o_P_dir_Dir rfl rfl rfl ?_
  refine XL.nil ?_
  refine XQ.thenN ?_
  refine XC.seq ?_
  refine XC.reg ?_
  refine XL.ldM g_core_Node rfl (by rfl) rfl ?_
  refine XL.stM g_core_Node rfl rfl rfl (by rfl) rfl ?_
  refine XL.as rfl rfl ?_
  refine XL.nil ?_
  refine XQ.thenN ?_
  refine XC.ret ?_
  exact XQ.ret (.inl rfl) rfl (rC (resN g_core_Node rfl rfl rfl) <| rC (resT rfl) <| rN) [fsc f vm vt last, mapC vm encKI es, ndc b n nilP] (⟨rfl, rfl⟩) ((prm (by repeat constructor)))

theorem core_FS_Node_dir_fn (f : Nat) (vm vt : Value) (last : Int) (es : List (Int × Value)) (id : Int) (b : Nat) (hb : getM es id = some (pt b)) (n : Nd) (d : Nat) (s : List UInt8) (e : Int) : Does P F_core_FS_Node [pt f, I id] [fsc f vm vt last, mapC vm encKI es, ndc b n (pt d), dir1 d s e] fun u cs => (∃ x, u = .tuple #[.agg (nd n (pt x)).toArray, B true]) ∧ cs = [fsc f vm vt last, mapC vm encKI es, ndc b n (pt d), dir1 d s e] := by
  refine Does.mk (N := 32) fn_core_FS_Node rfl rfl rfl (fun F => ?_)
  simp only [List.cons_append, List.nil_append]
  refine XC.seq ?_
  refine XC.reg ?_
  refine XL.al z_core_Node rfl (fun b4 => ?_)
  refine XL.as rfl rfl ?_
  refine XL.nil ?_
  refine XQ.thenN ?_
  refine XC.seq ?_
  refine XC.seq ?_
  refine XC.reg ?_
  refine XL.mv rfl rfl ?_
  refine XL.bin rfl rfl rfl (bEqPF u_P_core_FS) ?_
  refine XL.mv rfl rfl ?_
  refine XL.re 9 (u := .bool false) rfl (rfl) ?_
  refine XL.mv rfl rfl ?_
  refine XL.ncP rfl rfl ?_
  refine XL.fa fo_core_FS_0 rfl rfl ?_
  refine XL.ld o_M_int_P_core_Node rfl (by rfl) rfl ?_
  refine XL.mv rfl rfl ?_
  refine XL.lkV id m_M_int_P_core_Node (keyI u_int) zv_P_core_Node rfl rfl rfl ?_
  simp only [hb, Option.getD_some]
  refine XL.bin rfl rfl rfl (bEqPF u_P_core_Node) ?_
  refine XL.pkF rfl rfl rfl ?_
  refine XL.nil ?_
  refine XQ.thenN ?_
  refine XC.condF' rfl (rfl) ?_
  refine XC.skip ?_
  refine XQ.thenN ?_
  refine XC.seq ?_
  refine XC.reg ?_
  refine XL.mv rfl rfl ?_
  refine XL.ncP rfl rfl ?_
  refine XL.fa fo_core_FS_0 rfl rfl ?_
  refine XL.ld o_M_int_P_core_Node rfl (by rfl) rfl ?_
  refine XL.mv rfl rfl ?_
  refine XL.lkV id m_M_int_P_core_Node (keyI u_int) zv_P_core_Node rfl rfl rfl ?_
  simp only [hb, Option.getD_some]
  refine XL.ncP rfl rfl ?_
  refine XL.ldM g_core_Node rfl (by rfl) rfl ?_
  refine XL.al z_core_Node rfl (fun b6 => ?_)
  refine XL.stM g_core_Node rfl rfl rfl (by rfl) rfl ?_
  refine XL.nil ?_
  refine XQ.thenN ?_
  refine XC.seq ?_
  refine XC.reg ?_
  refine XL.fa fo_core_Node_4 rfl rfl ?_
  refine XL.ld o_P_dir_Dir rfl (by rfl) rfl ?_
  refine XL.call hb_dir_Dir_Clone rfl rfl (dir_Dir_Clone_one_fn d s e) (Tk.take (by repeat constructor)) ?_
  rintro _ _ ⟨x, rfl, rfl⟩
  simp only [List.cons_append, List.nil_append]
  refine XL.fa fo_core_Node_4 rfl rfl ?_
  refine XL.st o_P_dir_Dir rfl rfl rfl ?_
  refine XL.nil ?_
  refine XQ.thenN ?_
  refine XC.seq ?_
  refine XC.reg ?_
  refine XL.ldM g_core_Node rfl (by rfl) rfl ?_
  refine XL.stM g_core_Node rfl rfl rfl (by rfl) rfl ?_
  refine XL.as rfl rfl ?_
  refine XL.nil ?_
  refine XQ.thenN ?_
  refine XC.ret ?_
  exact XQ.ret (.inl rfl) rfl (rC (resN g_core_Node rfl rfl rfl) <| rC (resT rfl) <| rN) [fsc f vm vt last, mapC vm encKI es, ndc b n (pt d), dir1 d s e] (⟨⟨x, rfl⟩, rfl⟩) ((prm (by repeat constructor)))
end Go.Proofs.YteeiccjglmehcaaGreat
