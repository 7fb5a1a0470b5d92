/-
  Package dir: directories of no name or one. Printed by mk.py out of spec_core6.py.
-/
import Derived.Test.YteeiccjglmehcaaGreatSxC5
namespace Go.Proofs.YteeiccjglmehcaaGreat
open Go Go.Sx

@[reducible] def dr (d : Nat) (tn tc : Value) (n1 n2 g : Int) : Chunk := blk d [tn, I n1, tc, I n2, I g] T_dir_Dir
structure TrZ where
  b : Nat
  k : Value
  v : Value
/-- A leaf of one name. -/
def lfS (b : Nat) (s : List UInt8) (id c : Int) : Chunk := exi fun z : Value × Value => [blk b [z.1, z.2, nilS] T_dir_node_string_dir_Entry, sl z.1 encS [s] T_string 1, sl z.2 encE [(s, id, c)] T_dir_Entry 3]
def lfI (b : Nat) (c : Int) (s : List UInt8) : Chunk := exi fun z : Value × Value => [blk b [z.1, z.2, nilS] T_dir_node_int_string, sl z.1 encN [c] T_int 1, sl z.2 encS [s] T_string 1]
/-- A directory of no name; of one. -/
def dir0 (d : Nat) : Chunk := dr d nilP nilP 0 0 0
def dir1 (d : Nat) (s : List UInt8) (id : Int) : Chunk := exi fun z : Nat × Nat => [dr d (pt z.1) (pt z.2) 1 1 3, lfS z.1 s id 3, lfI z.2 3 s]

theorem dir_node_string_dir_Entry_full_fn (b : Nat) (v v2 v3 : Value) (l : List (List UInt8)) (hl : l.length ≤ 6) : Does P F_dir_node_string_dir_Entry_full [pt b] [blk b [v, v2, v3] T_dir_node_string_dir_Entry, sl v encS l T_string 1] fun u cs => u = B false ∧ cs = [blk b [v, v2, v3] T_dir_node_string_dir_Entry, sl v encS l T_string 1] := by
  refine Does.mk (N := 9) fn_dir_node_string_dir_Entry_full rfl rfl rfl (fun F => ?_)
  simp only [List.cons_append, List.nil_append]
  refine XC.seq ?_
  refine XC.reg ?_
  refine XL.as rfl rfl ?_
  refine XL.nil ?_
  refine XQ.thenN ?_
  refine XC.seq ?_
  refine XC.reg ?_
  refine XL.mv rfl rfl ?_
  refine XL.ncP rfl rfl ?_
  refine XL.fa fo_dir_node_string_dir_Entry_0 rfl rfl ?_
  refine XL.ld o_L_string rfl (by rfl) rfl ?_
  refine XL.lenS e_L_string rfl rfl ?_
  refine XL.bin rfl rfl rfl (bGtr) ?_
  refine XL.as rfl rfl ?_
  refine XL.nil ?_
  refine XQ.thenN ?_
  refine XC.ret ?_
  exact XQ.ret (.inl rfl) rfl (rC (resT rfl) <| rN) [blk b [v, v2, v3] T_dir_node_string_dir_Entry, sl v encS l T_string 1] (⟨congrArg Value.bool (decide_eq_false (by omega)), rfl⟩) (fun w h => h)

theorem dir_node_int_string_full_fn (b : Nat) (v v2 v3 : Value) (l : List (Int)) (hl : l.length ≤ 6) : Does P F_dir_node_int_string_full [pt b] [blk b [v, v2, v3] T_dir_node_int_string, sl v encN l T_int 1] fun u cs => u = B false ∧ cs = [blk b [v, v2, v3] T_dir_node_int_string, sl v encN l T_int 1] := by
  refine Does.mk (N := 9) fn_dir_node_int_string_full rfl rfl rfl (fun F => ?_)
  simp only [List.cons_append, List.nil_append]
  refine XC.seq ?_
  refine XC.reg ?_
  refine XL.as rfl rfl ?_
  refine XL.nil ?_
  refine XQ.thenN ?_
  refine XC.seq ?_
  refine XC.reg ?_
  refine XL.mv rfl rfl ?_
  refine XL.ncP rfl rfl ?_
  refine XL.fa fo_dir_node_int_string_0 rfl rfl ?_
  refine XL.ld o_L_int rfl (by rfl) rfl ?_
  refine XL.lenS e_L_int rfl rfl ?_
  refine XL.bin rfl rfl rfl (bGtr) ?_
  refine XL.as rfl rfl ?_
  refine XL.nil ?_
  refine XQ.thenN ?_
  refine XC.ret ?_
  exact XQ.ret (.inl rfl) rfl (rC (resT rfl) <| rN) [blk b [v, v2, v3] T_dir_node_int_string, sl v encN l T_int 1] (⟨congrArg Value.bool (decide_eq_false (by omega)), rfl⟩) (fun w h => h)

theorem lfS_shut {b : Nat} {k v : Value} {s : List UInt8} {id c : Int} {r : List Chunk} {w : World} (h : Sat ([blk b [k, v, nilS] T_dir_node_string_dir_Entry, sl k encS [s] T_string 1, sl v encE [(s, id, c)] T_dir_Entry 3] ++ r) w) : Sat (lfS b s id c :: r) w :=
  Sat.shut (f := fun z : Value × Value => [blk b [z.1, z.2, nilS] T_dir_node_string_dir_Entry, sl z.1 encS [s] T_string 1, sl z.2 encE [(s, id, c)] T_dir_Entry 3]) (k, v) h
theorem lfI_shut {b : Nat} {k v : Value} {s : List UInt8} {c : Int} {r : List Chunk} {w : World} (h : Sat ([blk b [k, v, nilS] T_dir_node_int_string, sl k encN [c] T_int 1, sl v encS [s] T_string 1] ++ r) w) : Sat (lfI b c s :: r) w :=
  Sat.shut (f := fun z : Value × Value => [blk b [z.1, z.2, nilS] T_dir_node_int_string, sl z.1 encN [c] T_int 1, sl z.2 encS [s] T_string 1]) (k, v) h

theorem dir_tree_string_dir_Entry_put_fn (d : Nat) (tc : Value) (n2 g : Int) (s : List UInt8) (id : Int) (c : Int) : Does P F_dir_tree_string_dir_Entry_put [pt d, S s, .agg (encE (s, id, c)).toArray] [dr d nilP tc 0 n2 g] fun u cs => u = .tuple #[] ∧ ∃ b, cs = [dr d (pt b) tc 1 n2 g, lfS b s id c] := by
  refine Does.mk (N := 126) fn_dir_tree_string_dir_Entry_put rfl rfl rfl (fun F => ?_)
  simp only [List.cons_append, List.nil_append]
  refine XC.seq ?_
  refine XC.reg ?_
  refine XL.bx rfl rfl rfl (fun b5 => ?_)
  refine XL.nil ?_
  refine XQ.thenN ?_
  refine XC.seq ?_
  refine XC.seq ?_
  refine XC.reg ?_
  refine XL.mv rfl rfl ?_
  refine XL.ncP rfl rfl ?_
  refine XL.fa fo_dir_tree_string_dir_Entry_0 rfl rfl ?_
  refine XL.ld o_P_dir_node_string_dir_Entry rfl (by rfl) rfl ?_
  refine XL.bin rfl rfl rfl (bEqPT u_P_dir_node_string_dir_Entry) ?_
  refine XL.nil ?_
  refine XQ.thenN ?_
  refine XC.condT' rfl (rfl) ?_
  refine XC.reg ?_
  refine XL.mv rfl rfl ?_
  refine XL.bd z_dir_node_string_dir_Entry p_dir_node_string_dir_Entry rfl rfl ?_
  refine XL.bx rfl rfl rfl (fun b18 => ?_)
  refine XL.ncP rfl rfl ?_
  refine XL.fa fo_dir_tree_string_dir_Entry_0 rfl rfl ?_
  refine XL.st o_P_dir_node_string_dir_Entry rfl rfl rfl ?_
  refine XL.nil ?_
  refine XQ.thenN ?_
  refine XC.seq ?_
  refine XC.seq ?_
  refine XC.to (fun w h => sl_nil (enc := encS) (e := T_string) (sz := 1) (sl_nil (enc := encE) (e := T_dir_Entry) (sz := 3) h)) ?_
  refine XC.reg ?_
  refine XL.mv rfl rfl ?_
  refine XL.ncP rfl rfl ?_
  refine XL.fa fo_dir_tree_string_dir_Entry_0 rfl rfl ?_
  refine XL.ld o_P_dir_node_string_dir_Entry rfl (by rfl) rfl ?_
  refine XL.call hb_dir_node_string_dir_Entry_full rfl rfl (dir_node_string_dir_Entry_full_fn b18 nilS nilS nilS [] (by simp)) (Tk.take (by repeat constructor)) ?_
  rintro _ _ ⟨rfl, rfl⟩
  simp only [List.cons_append, List.nil_append]
  refine XL.nil ?_
  refine XQ.thenN ?_
  refine XC.condF' rfl (rfl) ?_
  refine XC.skip ?_
  refine XQ.thenN ?_
  refine XC.seq ?_
  refine XC.reg ?_
  refine XL.mv rfl rfl ?_
  refine XL.ncP rfl rfl ?_
  refine XL.fa fo_dir_tree_string_dir_Entry_0 rfl rfl ?_
  refine XL.ld o_P_dir_node_string_dir_Entry rfl (by rfl) rfl ?_
  refine XL.as rfl rfl ?_
  refine XL.nil ?_
  refine XQ.thenN ?_
  refine XC.seq ?_
  refine XC.block ?_
  refine XC.loop (ι := Unit) (fun _ => [(0, pt d), (1, S s), (5, pt b5), (6, pt b18)]) (fun _ => [blk b18 [nilS, nilS, nilS] T_dir_node_string_dir_Entry, sl nilS encS [] T_string 1, sl nilS encE [] T_dir_Entry 3, dr d (pt b18) tc 0 n2 g, blk b5 (encE (s, id, c)) T_dir_Entry, F]) (fun _ => True) (fun _ => 0) () trivial ⟨rfl, rfl, rfl, rfl, trivial⟩ (prm (by repeat constructor)) (fun _ _ => ?_)
  refine XC.seq ?_
  refine XC.seq ?_
  refine XC.reg ?_
  refine XL.mv rfl rfl ?_
  refine XL.ncP rfl rfl ?_
  refine XL.fa fo_dir_node_string_dir_Entry_2 rfl rfl ?_
  refine XL.ld o_L_P_dir_node_string_dir_Entry rfl (by rfl) rfl ?_
  refine XL.bin rfl rfl rfl (bNeSlN u_L_P_dir_node_string_dir_Entry) ?_
  refine XL.nil ?_
  refine XQ.thenN ?_
  refine XC.condF' rfl (rfl) ?_
  refine XC.exit ?_
  refine XQ.thenE ?_
  refine XQ.thenE ?_
  refine XQ.blkE ?_
  refine XQ.thenN ?_
  refine XC.seq ?_
  refine XC.reg ?_
  refine XL.mv rfl rfl ?_
  refine XL.ncP rfl rfl ?_
  refine XL.fa fo_dir_node_string_dir_Entry_0 rfl rfl ?_
  refine XL.ld o_L_string rfl (by rfl) rfl ?_
  refine XL.mv rfl rfl ?_
  refine XL.call hb_slices_BinarySearch_L_string_string rfl rfl (slices_BinarySearch_L_string_string_none_fn nilS s) (Tk.take (by repeat constructor)) ?_
  rintro _ _ ⟨rfl, rfl⟩
  simp only [List.cons_append, List.nil_append]
  refine XL.mv rfl rfl ?_
  refine XL.ex rfl rfl rfl ?_
  refine XL.ex rfl rfl rfl ?_
  refine XL.as rfl rfl ?_
  refine XL.as rfl rfl ?_
  refine XL.nil ?_
  refine XQ.thenN ?_
  refine XC.seq ?_
  refine XC.reg ?_
  refine XL.mv rfl rfl ?_
  refine XL.mv rfl rfl ?_
  refine XL.ncP rfl rfl ?_
  refine XL.fa fo_dir_node_string_dir_Entry_0 rfl rfl ?_
  refine XL.ld o_L_string rfl (by rfl) rfl ?_
  refine XL.mv rfl rfl ?_
  refine XL.mv rfl rfl ?_
  refine XL.bs (enc := encS) [s] e_L_string z_string rfl rfl rfl (by simp) rfl (fun v104 _ => ?_)
  refine XL.call hb_slices_Insert_L_string_string rfl rfl (slices_Insert_L_string_string_fn nilS v104 [] [s] (by simp) (by simp) (by simp)) (Tk.take (by repeat constructor)) ?_
  rintro v105 _ rfl
  simp only [List.cons_append, List.nil_append]
  refine XL.have (fun w h => sl_one h) (fun hv105 => ?_)
  refine XL.ncP rfl rfl ?_
  refine XL.fa fo_dir_node_string_dir_Entry_0 rfl rfl ?_
  refine XL.st o_L_string rfl rfl rfl ?_
  refine XL.nil ?_
  refine XQ.thenN ?_
  refine XC.seq ?_
  refine XC.drw (.q 0 <| .q 1 <| .q 2 <| .q 3 <| .q 4 <| .q 5 <| .q 6 <| .e 7 <| .r 0 <| .r 1 <| .r 2 <| .r 3 <| .r 4 <| .r 5 <| .e 8 <| .r 0 <| .q 9 <| .q 10 <| .e 11 <| .done) mixed (by kernel_rfl) rfl ?_
  refine JP.qq rfl rfl rfl (XL.mv rfl rfl XL.qd) ?_
  refine JP.qq rfl rfl rfl (XL.mv rfl rfl XL.qd) ?_
  refine JP.qq rfl rfl rfl (XL.ncP rfl rfl XL.qd) ?_
  refine JP.qq rfl rfl rfl (XL.fa fo_dir_node_string_dir_Entry_1 rfl rfl XL.qd) ?_
  refine JP.qq rfl rfl rfl (XL.ld o_L_dir_Entry rfl (by rfl) rfl XL.qd) ?_
  refine JP.qq rfl rfl rfl (XL.mv rfl rfl XL.qd) ?_
  refine JP.qq rfl rfl rfl (XL.ldM g_dir_Entry rfl (by rfl) rfl XL.qd) ?_
  refine JP.ee rfl ?_
  refine XL.bs (enc := encE) [(s, id, c)] e_L_dir_Entry z_dir_Entry rfl rfl rfl (by simp) rfl (fun v115 _ => ?_)
  refine XL.ed ?_
  refine JP.rr rfl rfl rfl (XL.mv rfl rfl XL.qd) ?_
  refine JP.rr rfl rfl rfl (XL.mv rfl rfl XL.qd) ?_
  refine JP.rr rfl rfl rfl (XL.ncP rfl rfl XL.qd) ?_
  refine JP.rr rfl rfl rfl (XL.fa fo_dir_node_string_dir_Entry_1 rfl rfl XL.qd) ?_
  refine JP.rr rfl rfl rfl (XL.ld o_L_dir_Entry rfl (by rfl) rfl XL.qd) ?_
  refine JP.rr rfl rfl rfl (XL.mv rfl rfl XL.qd) ?_
  refine JP.ee rfl ?_
  refine XL.call hb_slices_Insert_L_dir_Entry_dir_Entry rfl rfl (slices_Insert_L_dir_Entry_dir_Entry_fn nilS v115 [] [(s, id, c)] (by simp) (by simp) (by simp)) (Tk.take (by repeat constructor)) ?_
  rintro v116 _ rfl
  simp only [List.cons_append, List.nil_append]
  refine XL.have (fun w h => sl_one h) (fun hv116 => ?_)
  refine XL.ed ?_
  refine JP.rr rfl rfl rfl (XL.mv rfl rfl XL.qd) ?_
  refine JP.qq rfl rfl rfl (XL.ncP rfl rfl XL.qd) ?_
  refine JP.qq rfl rfl rfl (XL.fa fo_dir_node_string_dir_Entry_1 rfl rfl XL.qd) ?_
  refine JP.ee rfl ?_
  refine XL.st o_L_dir_Entry rfl rfl rfl ?_
  refine XL.edn ?_
  refine JP.done ?_
  refine XQ.thenN ?_
  refine XC.reg ?_
  refine XL.mv rfl rfl ?_
  refine XL.ncP rfl rfl ?_
  refine XL.fa fo_dir_tree_string_dir_Entry_1 rfl rfl ?_
  refine XL.ld o_int rfl (by rfl) rfl ?_
  refine XL.bin rfl rfl rfl (bAdd (by omega)) ?_
  refine XL.ncP rfl rfl ?_
  refine XL.fa fo_dir_tree_string_dir_Entry_1 rfl rfl ?_
  refine XL.st o_int rfl rfl rfl ?_
  refine XL.nil ?_
  exact XQ.ret (.inr rfl) rfl (rN) [dr d (pt b18) tc 1 n2 g, lfS b18 s id c] (⟨rfl, b18, rfl⟩) (fun w h => Sat.perm t1 (lfS_shut (k := v105) (v := v116) (r := [dr d (pt b18) tc 1 n2 g, F]) (prm (by repeat constructor) _ h)))

theorem dir_tree_int_string_put_fn (d : Nat) (tn : Value) (n1 g : Int) (s : List UInt8) (c : Int) : Does P F_dir_tree_int_string_put [.pointer (some ⟨d, 2, none⟩), I c, S s] [dr d tn nilP n1 0 g] fun u cs => u = .tuple #[] ∧ ∃ b, cs = [dr d tn (pt b) n1 1 g, lfI b c s] := by
  refine Does.mk (N := 126) fn_dir_tree_int_string_put rfl rfl rfl (fun F => ?_)
  simp only [List.cons_append, List.nil_append]
  refine XC.seq ?_
  refine XC.seq ?_
  refine XC.reg ?_
  refine XL.mv rfl rfl ?_
  refine XL.ncP rfl rfl ?_
  refine XL.fa fo_dir_tree_int_string_0 rfl rfl ?_
  refine XL.ld o_P_dir_node_int_string rfl (by rfl) rfl ?_
  refine XL.bin rfl rfl rfl (bEqPT u_P_dir_node_int_string) ?_
  refine XL.nil ?_
  refine XQ.thenN ?_
  refine XC.condT' rfl (rfl) ?_
  refine XC.reg ?_
  refine XL.mv rfl rfl ?_
  refine XL.bd z_dir_node_int_string p_dir_node_int_string rfl rfl ?_
  refine XL.bx rfl rfl rfl (fun b18 => ?_)
  refine XL.ncP rfl rfl ?_
  refine XL.fa fo_dir_tree_int_string_0 rfl rfl ?_
  refine XL.st o_P_dir_node_int_string rfl rfl rfl ?_
  refine XL.nil ?_
  refine XQ.thenN ?_
  refine XC.seq ?_
  refine XC.seq ?_
  refine XC.to (fun w h => sl_nil (enc := encN) (e := T_int) (sz := 1) (sl_nil (enc := encS) (e := T_string) (sz := 1) h)) ?_
  refine XC.reg ?_
  refine XL.mv rfl rfl ?_
  refine XL.ncP rfl rfl ?_
  refine XL.fa fo_dir_tree_int_string_0 rfl rfl ?_
  refine XL.ld o_P_dir_node_int_string rfl (by rfl) rfl ?_
  refine XL.call hb_dir_node_int_string_full rfl rfl (dir_node_int_string_full_fn b18 nilS nilS nilS [] (by simp)) (Tk.take (by repeat constructor)) ?_
  rintro _ _ ⟨rfl, rfl⟩
  simp only [List.cons_append, List.nil_append]
  refine XL.nil ?_
  refine XQ.thenN ?_
  refine XC.condF' rfl (rfl) ?_
  refine XC.skip ?_
  refine XQ.thenN ?_
  refine XC.seq ?_
  refine XC.reg ?_
  refine XL.mv rfl rfl ?_
  refine XL.ncP rfl rfl ?_
  refine XL.fa fo_dir_tree_int_string_0 rfl rfl ?_
  refine XL.ld o_P_dir_node_int_string rfl (by rfl) rfl ?_
  refine XL.as rfl rfl ?_
  refine XL.nil ?_
  refine XQ.thenN ?_
  refine XC.seq ?_
  refine XC.block ?_
  refine XC.loop (ι := Unit) (fun _ => [(0, .pointer (some ⟨d, 2, none⟩)), (1, I c), (2, S s), (6, pt b18)]) (fun _ => [blk b18 [nilS, nilS, nilS] T_dir_node_int_string, sl nilS encN [] T_int 1, sl nilS encS [] T_string 1, dr d tn (pt b18) n1 0 g, F]) (fun _ => True) (fun _ => 0) () trivial ⟨rfl, rfl, rfl, rfl, trivial⟩ (prm (by repeat constructor)) (fun _ _ => ?_)
  refine XC.seq ?_
  refine XC.seq ?_
  refine XC.reg ?_
  refine XL.mv rfl rfl ?_
  refine XL.ncP rfl rfl ?_
  refine XL.fa fo_dir_node_int_string_2 rfl rfl ?_
  refine XL.ld o_L_P_dir_node_int_string rfl (by rfl) rfl ?_
  refine XL.bin rfl rfl rfl (bNeSlN u_L_P_dir_node_int_string) ?_
  refine XL.nil ?_
  refine XQ.thenN ?_
  refine XC.condF' rfl (rfl) ?_
  refine XC.exit ?_
  refine XQ.thenE ?_
  refine XQ.thenE ?_
  refine XQ.blkE ?_
  refine XQ.thenN ?_
  refine XC.seq ?_
  refine XC.reg ?_
  refine XL.mv rfl rfl ?_
  refine XL.ncP rfl rfl ?_
  refine XL.fa fo_dir_node_int_string_0 rfl rfl ?_
  refine XL.ld o_L_int rfl (by rfl) rfl ?_
  refine XL.mv rfl rfl ?_
  refine XL.call hb_slices_BinarySearch_L_int_int rfl rfl (slices_BinarySearch_L_int_int_none_fn nilS c) (Tk.take (by repeat constructor)) ?_
  rintro _ _ ⟨rfl, rfl⟩
  simp only [List.cons_append, List.nil_append]
  refine XL.mv rfl rfl ?_
  refine XL.ex rfl rfl rfl ?_
  refine XL.ex rfl rfl rfl ?_
  refine XL.as rfl rfl ?_
  refine XL.as rfl rfl ?_
  refine XL.nil ?_
  refine XQ.thenN ?_
  refine XC.seq ?_
  refine XC.reg ?_
  refine XL.mv rfl rfl ?_
  refine XL.mv rfl rfl ?_
  refine XL.ncP rfl rfl ?_
  refine XL.fa fo_dir_node_int_string_0 rfl rfl ?_
  refine XL.ld o_L_int rfl (by rfl) rfl ?_
  refine XL.mv rfl rfl ?_
  refine XL.mv rfl rfl ?_
  refine XL.bs (enc := encN) [c] e_L_int z_int rfl rfl rfl (by simp) rfl (fun v104 _ => ?_)
  refine XL.call hb_slices_Insert_L_int_int rfl rfl (slices_Insert_L_int_int_fn nilS v104 [] [c] (by simp) (by simp) (by simp)) (Tk.take (by repeat constructor)) ?_
  rintro v105 _ rfl
  simp only [List.cons_append, List.nil_append]
  refine XL.have (fun w h => sl_one h) (fun hv105 => ?_)
  refine XL.ncP rfl rfl ?_
  refine XL.fa fo_dir_node_int_string_0 rfl rfl ?_
  refine XL.st o_L_int rfl rfl rfl ?_
  refine XL.nil ?_
  refine XQ.thenN ?_
  refine XC.seq ?_
  refine XC.reg ?_
  refine XL.mv rfl rfl ?_
  refine XL.mv rfl rfl ?_
  refine XL.ncP rfl rfl ?_
  refine XL.fa fo_dir_node_int_string_1 rfl rfl ?_
  refine XL.ld o_L_string rfl (by rfl) rfl ?_
  refine XL.mv rfl rfl ?_
  refine XL.mv rfl rfl ?_
  refine XL.bs (enc := encS) [s] e_L_string z_string rfl rfl rfl (by simp) rfl (fun v115 _ => ?_)
  refine XL.call hb_slices_Insert_L_string_string rfl rfl (slices_Insert_L_string_string_fn nilS v115 [] [s] (by simp) (by simp) (by simp)) (Tk.take (by repeat constructor)) ?_
  rintro v116 _ rfl
  simp only [List.cons_append, List.nil_append]
  refine XL.have (fun w h => sl_one h) (fun hv116 => ?_)
  refine XL.ncP rfl rfl ?_
  refine XL.fa fo_dir_node_int_string_1 rfl rfl ?_
  refine XL.st o_L_string rfl rfl rfl ?_
  refine XL.nil ?_
  refine XQ.thenN ?_
  refine XC.reg ?_
  refine XL.mv rfl rfl ?_
  refine XL.ncP rfl rfl ?_
  refine XL.fa fo_dir_tree_int_string_1 rfl rfl ?_
  refine XL.ld o_int rfl (by rfl) rfl ?_
  refine XL.bin rfl rfl rfl (bAdd (by omega)) ?_
  refine XL.ncP rfl rfl ?_
  refine XL.fa fo_dir_tree_int_string_1 rfl rfl ?_
  refine XL.st o_int rfl rfl rfl ?_
  refine XL.nil ?_
  exact XQ.ret (.inr rfl) rfl (rN) [dr d tn (pt b18) n1 1 g, lfI b18 c s] (⟨rfl, b18, rfl⟩) (fun w h => Sat.perm t1 (lfI_shut (k := v105) (v := v116) (r := [dr d tn (pt b18) n1 1 g, F]) (prm (by repeat constructor) _ h)))
end Go.Proofs.YteeiccjglmehcaaGreat
