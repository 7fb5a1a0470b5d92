/-
  Package core: setting. Printed by mk.py out of spec_core4.py.
-/
import Derived.Test.YteeiccjglmehcaaGreatSxC3
namespace Go.Proofs.YteeiccjglmehcaaGreat
open Go Go.Sx

theorem repeatL_one (n : Nat) (c : UInt8) : Lib.repeatL [c] n = List.replicate n c := by
  induction n with
  | zero => rfl
  | succ n ih => rw [Lib.repeatL, ih, List.replicate_succ]; rfl
theorem strings_Repeat_fn (s : List UInt8) (c : Nat) (hc : c ≤ 9223372036854775807) (hlen : s.length * c ≤ 140737488355328) : Does P F_strings_Repeat [S s, .int .i64 (c : Int)] [] fun v cs => v = S (Lib.repeatL s c) ∧ cs = [] :=
  Does.of_below fun w => Tryz.strings_Repeat ⟨s.toArray⟩ c w hc (by rw [size_S]; exact hlen)
/-- A text of so many bytes, filled up with noughts. -/
def cutL (s : List UInt8) (k : Nat) : List UInt8 := s.take k ++ List.replicate (k - s.length) 0
theorem cutL_le {s : List UInt8} {k : Nat} (h : k ≤ s.length) : cutL s k = s.take k := by simp [cutL, Nat.sub_eq_zero_of_le h]
theorem cutL_ge {s : List UInt8} {k : Nat} (h : s.length < k) : cutL s k = s ++ List.replicate (k - s.length) 0 := by rw [cutL, List.take_of_length_le (by omega)]
theorem cutL_length (s : List UInt8) (k : Nat) : (cutL s k).length = k := by simp [cutL]; omega

theorem core_cut_fn (s : List UInt8) (k : Nat) (hs : s.length ≤ 1000000) (hk : k ≤ 1000000) : Does P F_core_cut [S s, I (k : Int)] [] fun u cs => u = S (cutL s k) ∧ cs = [] := by
  refine Does.mk (N := 19) fn_core_cut rfl rfl rfl (fun F => ?_)
  simp only [List.cons_append, List.nil_append]
  refine XC.seq ?_
  refine XC.reg ?_
  refine XL.as rfl rfl ?_
  refine XL.nil ?_
  refine XQ.thenN ?_
  refine XC.seq ?_
  refine XC.seq ?_
  refine XC.reg ?_
  refine XL.mv rfl rfl ?_
  refine XL.mv rfl rfl ?_
  refine XL.lenT u_string rfl rfl ?_
  refine XL.bin rfl rfl rfl (bLeq) ?_
  refine XL.nil ?_
  refine XQ.thenN ?_
  refine XC.cond rfl (fun hc0 => ?_) (fun hc0 => ?_)
  · refine XC.seq ?_
    refine XC.reg ?_
    refine XL.mv rfl rfl ?_
    refine XL.mv rfl rfl ?_
    refine XL.slT 0 k u_string rfl rfl ⟨_, rfl⟩ (by omega) (by omega) rfl ?_
    refine XL.as rfl rfl ?_
    refine XL.nil ?_
    refine XQ.thenN ?_
    refine XC.ret ?_
    refine XQ.thenR ?_
    exact XQ.ret (.inl rfl) rfl (rC (resT rfl) <| rN) [] (⟨by rw [cutL_le (by omega)]; rfl, rfl⟩) (fun w h => h)
  · refine XC.skip ?_
    refine XQ.thenN ?_
    refine XC.seq ?_
    refine XC.reg ?_
    refine XL.mv rfl rfl ?_
    refine XL.mv rfl rfl ?_
    refine XL.mv rfl rfl ?_
    refine XL.lenT u_string rfl rfl ?_
    refine XL.bin rfl rfl rfl (bSub (by omega)) ?_
    rw [show ((k : Int) - (s.length : Int)) = ((k - s.length : Nat) : Int) by omega]
    refine XL.call hb_strings_Repeat rfl rfl (strings_Repeat_fn [0] (k - s.length) (by omega) (by simp; omega)) tn ?_
    rintro _ _ ⟨rfl, rfl⟩
    simp only [List.cons_append, List.nil_append, repeatL_one]
    refine XL.bin rfl rfl rfl (bAddS (by simp; omega)) ?_
    refine XL.as rfl rfl ?_
    refine XL.nil ?_
    refine XQ.thenN ?_
    refine XC.ret ?_
    exact XQ.ret (.inl rfl) rfl (rC (resT rfl) <| rN) [] (⟨by rw [cutL_ge (by omega)]; rfl, rfl⟩) (fun w h => h)

abbrev Nd.touched (n : Nd) (now : Int) : Nd := { n with c0 := now, c1 := 0 }
abbrev Nd.filled (n : Nd) (d : List UInt8) : Nd := { n with data := d, size := d.length, used := ((d.length : Int) + 128 - 1) / 128 * 128 }
/-- Its size is set. -/
def Nd.sized (n : Nd) (now : Int) (k : Nat) : Nd := if (k : Int) = n.size then n.touched now else { (n.touched now).filled (cutL n.data k) with m0 := now, m1 := 0 }
@[reducible] def encW (b : Nat) (o : Nat) : List Value := [I 0, I 0, I 0, .pointer (some ⟨b, o, none⟩)]

/-- The bits of a mode. -/
def modeI (m : Int) : Int := IntKind.i64.wrap ((BitVec.ofInt 64 m &&& BitVec.ofInt 64 4095).toNat : Int)

theorem core_Caller_set_mode_fn (b : Nat) (n : Nd) (p : Value) (now m : Int) (s : Int) : Does P F_core_Caller_set [clV now, pt b, seV true false m s] [ndc b n p] fun u cs => u = .tuple #[] ∧ cs = [ndc b ({ n.touched now with mode := modeI m }) p] := by
  refine Does.mk (N := 107) fn_core_Caller_set rfl rfl rfl (fun F => ?_)
  simp only [List.cons_append, List.nil_append]
  refine XC.seq ?_
  refine XC.reg ?_
  refine XL.bx rfl rfl rfl (fun b3 => ?_)
  refine XL.bx rfl rfl rfl (fun b5 => ?_)
  refine XL.nil ?_
  refine XQ.thenN ?_
  refine XC.seq ?_
  refine XC.seq ?_
  refine XC.reg ?_
  refine XL.fa fo_attr_Set_0 rfl rfl ?_
  refine XL.ld o_bool rfl (by rfl) rfl ?_
  refine XL.nil ?_
  refine XQ.thenN ?_
  refine XC.condT' rfl (rfl) ?_
  refine XC.reg ?_
  refine XL.mv rfl rfl ?_
  refine XL.fa fo_attr_Set_4 rfl rfl ?_
  refine XL.ld o_int rfl (by rfl) rfl ?_
  refine XL.bin rfl rfl rfl (bAndK) ?_
  refine XL.ncP rfl rfl ?_
  refine XL.fa fo_core_Node_0 rfl rfl ?_
  refine XL.fa fo_attr_Attr_1 rfl rfl ?_
  refine XL.st o_int rfl rfl rfl ?_
  refine XL.nil ?_
  refine XQ.thenN ?_
  refine XC.seq ?_
  refine XC.seq ?_
  refine XC.reg ?_
  refine XL.fa fo_attr_Set_1 rfl rfl ?_
  refine XL.ld o_bool rfl (by rfl) rfl ?_
  refine XL.nil ?_
  refine XQ.thenN ?_
  refine XC.condF' rfl (rfl) ?_
  refine XC.skip ?_
  refine XQ.thenN ?_
  refine XC.seq ?_
  refine XC.seq ?_
  refine XC.reg ?_
  refine XL.fa fo_attr_Set_2 rfl rfl ?_
  refine XL.ld o_bool rfl (by rfl) rfl ?_
  refine XL.nil ?_
  refine XQ.thenN ?_
  refine XC.condF' rfl (rfl) ?_
  refine XC.skip ?_
  refine XQ.thenN ?_
  refine XC.seq ?_
  refine XC.reg ?_
  refine XL.mv rfl rfl ?_
  refine XL.ldM g_core_Caller rfl (by rfl) rfl ?_
  refine XL.call hb_core_Caller_time rfl rfl (core_Caller_time_fn _) (tn) ?_
  rintro _ _ ⟨rfl, rfl⟩
  simp only [List.cons_append, List.nil_append]
  refine XL.ncP rfl rfl ?_
  refine XL.fa fo_core_Node_0 rfl rfl ?_
  refine XL.fa fo_attr_Attr_13 rfl rfl ?_
  refine XL.stM g_attr_Time rfl rfl rfl (by rfl) rfl ?_
  refine XL.nil ?_
  refine XQ.thenN ?_
  refine XC.seq ?_
  refine XC.seq ?_
  refine XC.drw (.q 0 <| .q 1 <| .q 2 <| .q 3 <| .q 4 <| .q 5 <| .q 6 <| .q 7 <| .q 8 <| .q 9 <| .q 10 <| .q 11 <| .done) mixed (by kernel_rfl) rfl ?_
  refine JP.qq rfl rfl rfl (XL.fa fo_attr_Set_3 rfl rfl XL.qd) ?_
  refine JP.qq rfl rfl rfl (XL.ld o_bool rfl (by rfl) rfl XL.qd) ?_
  refine JP.qq rfl rfl rfl (XL.mv rfl rfl XL.qd) ?_
  refine JP.re 41 (u := .bool false) rfl (rfl) ?_
  refine JP.qq rfl rfl rfl (XL.no rfl rfl XL.qd) ?_
  refine JP.qq rfl rfl rfl (XL.no rfl rfl XL.qd) ?_
  refine JP.qq rfl rfl rfl (XL.no rfl rfl XL.qd) ?_
  refine JP.qq rfl rfl rfl (XL.no rfl rfl XL.qd) ?_
  refine JP.qq rfl rfl rfl (XL.no rfl rfl XL.qd) ?_
  refine JP.qq rfl rfl rfl (XL.no rfl rfl XL.qd) ?_
  refine JP.qq rfl rfl rfl (XL.no rfl rfl XL.qd) ?_
  refine JP.qq rfl rfl rfl (XL.no rfl rfl XL.qd) ?_
  refine JP.qq rfl rfl rfl (XL.pkF rfl rfl rfl XL.qd) ?_
  refine JP.done ?_
  refine XQ.thenN ?_
  refine XC.condF' rfl (rfl) ?_
  refine XC.skip ?_
  refine XQ.thenN ?_
  refine XC.seq ?_
  refine XC.drw (.q 0 <| .q 1 <| .q 2 <| .q 3 <| .q 4 <| .q 5 <| .q 6 <| .q 7 <| .q 8 <| .q 9 <| .q 10 <| .q 11 <| .q 12 <| .q 13 <| .q 14 <| .q 15 <| .q 16 <| .q 17 <| .q 20 <| .e 18 <| .r 20 <| .q 19 <| .done) mixed (by kernel_rfl) rfl ?_
  refine JP.qq rfl rfl rfl (XL.fa fo_attr_Set_8 rfl rfl XL.qd) ?_
  refine JP.qq rfl rfl rfl (XL.ld o_int rfl (by rfl) rfl XL.qd) ?_
  refine JP.qq rfl rfl rfl (XL.fa fo_attr_Set_10 rfl rfl XL.qd) ?_
  refine JP.qq rfl rfl rfl (XL.ldM g_attr_Time rfl (by rfl) rfl XL.qd) ?_
  refine JP.qq rfl rfl rfl (XL.mv rfl rfl XL.qd) ?_
  refine JP.qq rfl rfl rfl (XL.ncP rfl rfl XL.qd) ?_
  refine JP.qq rfl rfl rfl (XL.fa fo_core_Node_0 rfl rfl XL.qd) ?_
  refine JP.qq rfl rfl rfl (XL.fa fo_attr_Attr_11 rfl rfl XL.qd) ?_
  refine JP.qq rfl rfl rfl (XL.bd z_struct_how_int_when_attr_Time_to_P_attr_Time p_struct_how_int_when_attr_Time_to_P_attr_Time rfl rfl XL.qd) ?_
  refine JP.qq rfl rfl rfl (XL.fa fo_attr_Set_9 rfl rfl XL.qd) ?_
  refine JP.qq rfl rfl rfl (XL.ld o_int rfl (by rfl) rfl XL.qd) ?_
  refine JP.qq rfl rfl rfl (XL.fa fo_attr_Set_11 rfl rfl XL.qd) ?_
  refine JP.qq rfl rfl rfl (XL.ldM g_attr_Time rfl (by rfl) rfl XL.qd) ?_
  refine JP.qq rfl rfl rfl (XL.mv rfl rfl XL.qd) ?_
  refine JP.qq rfl rfl rfl (XL.ncP rfl rfl XL.qd) ?_
  refine JP.qq rfl rfl rfl (XL.fa fo_core_Node_0 rfl rfl XL.qd) ?_
  refine JP.qq rfl rfl rfl (XL.fa fo_attr_Attr_12 rfl rfl XL.qd) ?_
  refine JP.qq rfl rfl rfl (XL.bd z_struct_how_int_when_attr_Time_to_P_attr_Time p_struct_how_int_when_attr_Time_to_P_attr_Time rfl rfl XL.qd) ?_
  refine JP.qq rfl rfl rfl (XL.mv rfl rfl XL.qd) ?_
  refine JP.ee rfl ?_
  refine XL.bs (enc := encW b) [11, 13] e_L_struct_how_int_when_attr_Time_to_P_attr_Time z_struct_how_int_when_attr_Time_to_P_attr_Time rfl rfl rfl (by simp) rfl (fun v84 _ => ?_)
  refine XL.ed ?_
  refine JP.rr rfl rfl rfl (XL.mv rfl rfl XL.qd) ?_
  refine JP.qq rfl rfl rfl (XL.lenS e_L_struct_how_int_when_attr_Time_to_P_attr_Time rfl rfl XL.qd) ?_
  refine JP.done ?_
  refine XQ.thenN ?_
  refine XC.block ?_
  refine XC.loop (ι := Nat) (fun i => [(3, pt b3), (84, v84), (85, I 2), (86, I (i : Int))]) (fun i => [sl v84 (encW b) [11, 13] T_struct_how_int_when_attr_Time_to_P_attr_Time 4, ndc b ({ n with mode := modeI m, c0 := now, c1 := 0 }) p, F]) (fun i => i ≤ 2) (fun i => 2 - i) 0 (by omega) ⟨rfl, rfl, rfl, rfl, trivial⟩ (prm (by repeat constructor)) (fun i hi => ?_)
  refine XC.seq ?_
  refine XC.reg ?_
  refine XL.bin rfl rfl rfl (bLss) ?_
  refine XL.nil ?_
  refine XQ.thenN ?_
  refine XC.seq ?_
  refine XC.cond rfl (fun hc4 => ?_) (fun hc4 => ?_)
  · have hlt : i < ([11, 13] : List Nat).length := by simp; omega
    refine XC.skip ?_
    refine XQ.thenN ?_
    refine XC.seq ?_
    refine XC.block ?_
    refine XC.seq ?_
    refine XC.reg ?_
    refine XL.ixS i e_L_struct_how_int_when_attr_Time_to_P_attr_Time rfl rfl rfl hlt rfl (fun b88 _ => ?_)
    refine XL.ldSN g_struct_how_int_when_attr_Time_to_P_attr_Time rfl hlt rfl ?_
    refine XL.al z_struct_how_int_when_attr_Time_to_P_attr_Time rfl (fun b7 => ?_)
    refine XL.stM g_struct_how_int_when_attr_Time_to_P_attr_Time rfl rfl rfl (by rfl) rfl ?_
    refine XL.nil ?_
    refine XQ.thenN ?_
    refine XC.seq ?_
    refine XC.reg ?_
    refine XL.fa fo_struct_how_int_when_attr_Time_to_P_attr_Time_0 rfl rfl ?_
    refine XL.ld o_int rfl (by rfl) rfl ?_
    refine XL.nil ?_
    refine XQ.thenN ?_
    refine XC.block ?_
    refine XC.seq ?_
    refine XC.reg ?_
    refine XL.bin rfl rfl rfl (bEqI) ?_
    refine XL.as rfl rfl ?_
    refine XL.nil ?_
    refine XQ.thenN ?_
    refine XC.condF' rfl (rfl) ?_
    refine XC.seq ?_
    refine XC.reg ?_
    refine XL.bin rfl rfl rfl (bEqI) ?_
    refine XL.as rfl rfl ?_
    refine XL.nil ?_
    refine XQ.thenN ?_
    refine XC.condF' rfl (rfl) ?_
    refine XC.skip ?_
    refine XQ.blkN ?_
    refine XQ.blkN ?_
    refine XQ.thenN ?_
    refine XC.reg ?_
    refine XL.bin rfl rfl rfl (bAdd (by omega)) ?_
    refine XL.mv rfl rfl ?_
    refine XL.nil ?_
    refine XQ.again (i + 1) (by omega) (by omega) ⟨rfl, rfl, rfl, rfl, trivial⟩ (prm (by repeat constructor))
  · refine XC.exit ?_
    refine XQ.thenE ?_
    refine XQ.thenE ?_
    refine XQ.blkE ?_
    exact XQ.ret (.inr rfl) rfl (rN) [ndc b ({ n.touched now with mode := modeI m }) p] (⟨rfl, rfl⟩) ((prm (by repeat constructor)))

theorem core_Caller_set_none_fn (b : Nat) (n : Nd) (p : Value) (now m : Int) (s : Int) : Does P F_core_Caller_set [clV now, pt b, seV false false m s] [ndc b n p] fun u cs => u = .tuple #[] ∧ cs = [ndc b (n.touched now) p] := by
  refine Does.mk (N := 107) fn_core_Caller_set rfl rfl rfl (fun F => ?_)
  simp only [List.cons_append, List.nil_append]
  refine XC.seq ?_
  refine XC.reg ?_
  refine XL.bx rfl rfl rfl (fun b3 => ?_)
  refine XL.bx rfl rfl rfl (fun b5 => ?_)
  refine XL.nil ?_
  refine XQ.thenN ?_
  refine XC.seq ?_
  refine XC.seq ?_
  refine XC.reg ?_
  refine XL.fa fo_attr_Set_0 rfl rfl ?_
  refine XL.ld o_bool rfl (by rfl) rfl ?_
  refine XL.nil ?_
  refine XQ.thenN ?_
  refine XC.condF' rfl (rfl) ?_
  refine XC.skip ?_
  refine XQ.thenN ?_
  refine XC.seq ?_
  refine XC.seq ?_
  refine XC.reg ?_
  refine XL.fa fo_attr_Set_1 rfl rfl ?_
  refine XL.ld o_bool rfl (by rfl) rfl ?_
  refine XL.nil ?_
  refine XQ.thenN ?_
  refine XC.condF' rfl (rfl) ?_
  refine XC.skip ?_
  refine XQ.thenN ?_
  refine XC.seq ?_
  refine XC.seq ?_
  refine XC.reg ?_
  refine XL.fa fo_attr_Set_2 rfl rfl ?_
  refine XL.ld o_bool rfl (by rfl) rfl ?_
  refine XL.nil ?_
  refine XQ.thenN ?_
  refine XC.condF' rfl (rfl) ?_
  refine XC.skip ?_
  refine XQ.thenN ?_
  refine XC.seq ?_
  refine XC.reg ?_
  refine XL.mv rfl rfl ?_
  refine XL.ldM g_core_Caller rfl (by rfl) rfl ?_
  refine XL.call hb_core_Caller_time rfl rfl (core_Caller_time_fn _) (tn) ?_
  rintro _ _ ⟨rfl, rfl⟩
  simp only [List.cons_append, List.nil_append]
  refine XL.ncP rfl rfl ?_
  refine XL.fa fo_core_Node_0 rfl rfl ?_
  refine XL.fa fo_attr_Attr_13 rfl rfl ?_
  refine XL.stM g_attr_Time rfl rfl rfl (by rfl) rfl ?_
  refine XL.nil ?_
  refine XQ.thenN ?_
  refine XC.seq ?_
  refine XC.seq ?_
  refine XC.drw (.q 0 <| .q 1 <| .q 2 <| .q 3 <| .q 4 <| .q 5 <| .q 6 <| .q 7 <| .q 8 <| .q 9 <| .q 10 <| .q 11 <| .done) mixed (by kernel_rfl) rfl ?_
  refine JP.qq rfl rfl rfl (XL.fa fo_attr_Set_3 rfl rfl XL.qd) ?_
  refine JP.qq rfl rfl rfl (XL.ld o_bool rfl (by rfl) rfl XL.qd) ?_
  refine JP.qq rfl rfl rfl (XL.mv rfl rfl XL.qd) ?_
  refine JP.re 41 (u := .bool false) rfl (rfl) ?_
  refine JP.qq rfl rfl rfl (XL.no rfl rfl XL.qd) ?_
  refine JP.qq rfl rfl rfl (XL.no rfl rfl XL.qd) ?_
  refine JP.qq rfl rfl rfl (XL.no rfl rfl XL.qd) ?_
  refine JP.qq rfl rfl rfl (XL.no rfl rfl XL.qd) ?_
  refine JP.qq rfl rfl rfl (XL.no rfl rfl XL.qd) ?_
  refine JP.qq rfl rfl rfl (XL.no rfl rfl XL.qd) ?_
  refine JP.qq rfl rfl rfl (XL.no rfl rfl XL.qd) ?_
  refine JP.qq rfl rfl rfl (XL.no rfl rfl XL.qd) ?_
  refine JP.qq rfl rfl rfl (XL.pkF rfl rfl rfl XL.qd) ?_
  refine JP.done ?_
  refine XQ.thenN ?_
  refine XC.condF' rfl (rfl) ?_
  refine XC.skip ?_
  refine XQ.thenN ?_
  refine XC.seq ?_
  refine XC.drw (.q 0 <| .q 1 <| .q 2 <| .q 3 <| .q 4 <| .q 5 <| .q 6 <| .q 7 <| .q 8 <| .q 9 <| .q 10 <| .q 11 <| .q 12 <| .q 13 <| .q 14 <| .q 15 <| .q 16 <| .q 17 <| .q 20 <| .e 18 <| .r 20 <| .q 19 <| .done) mixed (by kernel_rfl) rfl ?_
  refine JP.qq rfl rfl rfl (XL.fa fo_attr_Set_8 rfl rfl XL.qd) ?_
  refine JP.qq rfl rfl rfl (XL.ld o_int rfl (by rfl) rfl XL.qd) ?_
  refine JP.qq rfl rfl rfl (XL.fa fo_attr_Set_10 rfl rfl XL.qd) ?_
  refine JP.qq rfl rfl rfl (XL.ldM g_attr_Time rfl (by rfl) rfl XL.qd) ?_
  refine JP.qq rfl rfl rfl (XL.mv rfl rfl XL.qd) ?_
  refine JP.qq rfl rfl rfl (XL.ncP rfl rfl XL.qd) ?_
  refine JP.qq rfl rfl rfl (XL.fa fo_core_Node_0 rfl rfl XL.qd) ?_
  refine JP.qq rfl rfl rfl (XL.fa fo_attr_Attr_11 rfl rfl XL.qd) ?_
  refine JP.qq rfl rfl rfl (XL.bd z_struct_how_int_when_attr_Time_to_P_attr_Time p_struct_how_int_when_attr_Time_to_P_attr_Time rfl rfl XL.qd) ?_
  refine JP.qq rfl rfl rfl (XL.fa fo_attr_Set_9 rfl rfl XL.qd) ?_
  refine JP.qq rfl rfl rfl (XL.ld o_int rfl (by rfl) rfl XL.qd) ?_
  refine JP.qq rfl rfl rfl (XL.fa fo_attr_Set_11 rfl rfl XL.qd) ?_
  refine JP.qq rfl rfl rfl (XL.ldM g_attr_Time rfl (by rfl) rfl XL.qd) ?_
  refine JP.qq rfl rfl rfl (XL.mv rfl rfl XL.qd) ?_
  refine JP.qq rfl rfl rfl (XL.ncP rfl rfl XL.qd) ?_
  refine JP.qq rfl rfl rfl (XL.fa fo_core_Node_0 rfl rfl XL.qd) ?_
  refine JP.qq rfl rfl rfl (XL.fa fo_attr_Attr_12 rfl rfl XL.qd) ?_
  refine JP.qq rfl rfl rfl (XL.bd z_struct_how_int_when_attr_Time_to_P_attr_Time p_struct_how_int_when_attr_Time_to_P_attr_Time rfl rfl XL.qd) ?_
  refine JP.qq rfl rfl rfl (XL.mv rfl rfl XL.qd) ?_
  refine JP.ee rfl ?_
  refine XL.bs (enc := encW b) [11, 13] e_L_struct_how_int_when_attr_Time_to_P_attr_Time z_struct_how_int_when_attr_Time_to_P_attr_Time rfl rfl rfl (by simp) rfl (fun v84 _ => ?_)
  refine XL.ed ?_
  refine JP.rr rfl rfl rfl (XL.mv rfl rfl XL.qd) ?_
  refine JP.qq rfl rfl rfl (XL.lenS e_L_struct_how_int_when_attr_Time_to_P_attr_Time rfl rfl XL.qd) ?_
  refine JP.done ?_
  refine XQ.thenN ?_
  refine XC.block ?_
  refine XC.loop (ι := Nat) (fun i => [(3, pt b3), (84, v84), (85, I 2), (86, I (i : Int))]) (fun i => [sl v84 (encW b) [11, 13] T_struct_how_int_when_attr_Time_to_P_attr_Time 4, ndc b ({ n with c0 := now, c1 := 0 }) p, F]) (fun i => i ≤ 2) (fun i => 2 - i) 0 (by omega) ⟨rfl, rfl, rfl, rfl, trivial⟩ (prm (by repeat constructor)) (fun i hi => ?_)
  refine XC.seq ?_
  refine XC.reg ?_
  refine XL.bin rfl rfl rfl (bLss) ?_
  refine XL.nil ?_
  refine XQ.thenN ?_
  refine XC.seq ?_
  refine XC.cond rfl (fun hc4 => ?_) (fun hc4 => ?_)
  · have hlt : i < ([11, 13] : List Nat).length := by simp; omega
    refine XC.skip ?_
    refine XQ.thenN ?_
    refine XC.seq ?_
    refine XC.block ?_
    refine XC.seq ?_
    refine XC.reg ?_
    refine XL.ixS i e_L_struct_how_int_when_attr_Time_to_P_attr_Time rfl rfl rfl hlt rfl (fun b88 _ => ?_)
    refine XL.ldSN g_struct_how_int_when_attr_Time_to_P_attr_Time rfl hlt rfl ?_
    refine XL.al z_struct_how_int_when_attr_Time_to_P_attr_Time rfl (fun b7 => ?_)
    refine XL.stM g_struct_how_int_when_attr_Time_to_P_attr_Time rfl rfl rfl (by rfl) rfl ?_
    refine XL.nil ?_
    refine XQ.thenN ?_
    refine XC.seq ?_
    refine XC.reg ?_
    refine XL.fa fo_struct_how_int_when_attr_Time_to_P_attr_Time_0 rfl rfl ?_
    refine XL.ld o_int rfl (by rfl) rfl ?_
    refine XL.nil ?_
    refine XQ.thenN ?_
    refine XC.block ?_
    refine XC.seq ?_
    refine XC.reg ?_
    refine XL.bin rfl rfl rfl (bEqI) ?_
    refine XL.as rfl rfl ?_
    refine XL.nil ?_
    refine XQ.thenN ?_
    refine XC.condF' rfl (rfl) ?_
    refine XC.seq ?_
    refine XC.reg ?_
    refine XL.bin rfl rfl rfl (bEqI) ?_
    refine XL.as rfl rfl ?_
    refine XL.nil ?_
    refine XQ.thenN ?_
    refine XC.condF' rfl (rfl) ?_
    refine XC.skip ?_
    refine XQ.blkN ?_
    refine XQ.blkN ?_
    refine XQ.thenN ?_
    refine XC.reg ?_
    refine XL.bin rfl rfl rfl (bAdd (by omega)) ?_
    refine XL.mv rfl rfl ?_
    refine XL.nil ?_
    refine XQ.again (i + 1) (by omega) (by omega) ⟨rfl, rfl, rfl, rfl, trivial⟩ (prm (by repeat constructor))
  · refine XC.exit ?_
    refine XQ.thenE ?_
    refine XQ.thenE ?_
    refine XQ.blkE ?_
    exact XQ.ret (.inr rfl) rfl (rN) [ndc b (n.touched now) p] (⟨rfl, rfl⟩) ((prm (by repeat constructor)))

theorem core_Caller_set_size_fn (b : Nat) (n : Nd) (p : Value) (now m : Int) (s : Nat) (hd : n.data.length ≤ 1000000) (hs : s ≤ 1000000) : Does P F_core_Caller_set [clV now, pt b, seV false true m (s : Int)] [ndc b n p] fun u cs => u = .tuple #[] ∧ cs = [ndc b (n.sized now s) p] := by
  refine Does.mk (N := 107) fn_core_Caller_set rfl rfl rfl (fun F => ?_)
  simp only [List.cons_append, List.nil_append]
  refine XC.seq ?_
  refine XC.reg ?_
  refine XL.bx rfl rfl rfl (fun b3 => ?_)
  refine XL.bx rfl rfl rfl (fun b5 => ?_)
  refine XL.nil ?_
  refine XQ.thenN ?_
  refine XC.seq ?_
  refine XC.seq ?_
  refine XC.reg ?_
  refine XL.fa fo_attr_Set_0 rfl rfl ?_
  refine XL.ld o_bool rfl (by rfl) rfl ?_
  refine XL.nil ?_
  refine XQ.thenN ?_
  refine XC.condF' rfl (rfl) ?_
  refine XC.skip ?_
  refine XQ.thenN ?_
  refine XC.seq ?_
  refine XC.seq ?_
  refine XC.reg ?_
  refine XL.fa fo_attr_Set_1 rfl rfl ?_
  refine XL.ld o_bool rfl (by rfl) rfl ?_
  refine XL.nil ?_
  refine XQ.thenN ?_
  refine XC.condF' rfl (rfl) ?_
  refine XC.skip ?_
  refine XQ.thenN ?_
  refine XC.seq ?_
  refine XC.seq ?_
  refine XC.reg ?_
  refine XL.fa fo_attr_Set_2 rfl rfl ?_
  refine XL.ld o_bool rfl (by rfl) rfl ?_
  refine XL.nil ?_
  refine XQ.thenN ?_
  refine XC.condF' rfl (rfl) ?_
  refine XC.skip ?_
  refine XQ.thenN ?_
  refine XC.seq ?_
  refine XC.reg ?_
  refine XL.mv rfl rfl ?_
  refine XL.ldM g_core_Caller rfl (by rfl) rfl ?_
  refine XL.call hb_core_Caller_time rfl rfl (core_Caller_time_fn _) (tn) ?_
  rintro _ _ ⟨rfl, rfl⟩
  simp only [List.cons_append, List.nil_append]
  refine XL.ncP rfl rfl ?_
  refine XL.fa fo_core_Node_0 rfl rfl ?_
  refine XL.fa fo_attr_Attr_13 rfl rfl ?_
  refine XL.stM g_attr_Time rfl rfl rfl (by rfl) rfl ?_
  refine XL.nil ?_
  refine XQ.thenN ?_
  refine XC.seq ?_
  refine XC.seq ?_
  refine XC.drw (.q 0 <| .q 1 <| .q 2 <| .q 3 <| .q 4 <| .q 5 <| .q 6 <| .q 7 <| .q 8 <| .q 9 <| .q 10 <| .q 11 <| .done) mixed (by kernel_rfl) rfl ?_
  refine JP.qq rfl rfl rfl (XL.fa fo_attr_Set_3 rfl rfl XL.qd) ?_
  refine JP.qq rfl rfl rfl (XL.ld o_bool rfl (by rfl) rfl XL.qd) ?_
  refine JP.qq rfl rfl rfl (XL.mv rfl rfl XL.qd) ?_
  refine JP.re 41 (u := .bool true) rfl (rfl) ?_
  refine JP.qq rfl rfl rfl (XL.fa fo_attr_Set_7 rfl rfl XL.qd) ?_
  refine JP.qq rfl rfl rfl (XL.ld o_int rfl (by rfl) rfl XL.qd) ?_
  refine JP.qq rfl rfl rfl (XL.mv rfl rfl XL.qd) ?_
  refine JP.qq rfl rfl rfl (XL.ncP rfl rfl XL.qd) ?_
  refine JP.qq rfl rfl rfl (XL.fa fo_core_Node_0 rfl rfl XL.qd) ?_
  refine JP.qq rfl rfl rfl (XL.fa fo_attr_Attr_5 rfl rfl XL.qd) ?_
  refine JP.qq rfl rfl rfl (XL.ld o_int rfl (by rfl) rfl XL.qd) ?_
  refine JP.qq rfl rfl rfl (XL.bin rfl rfl rfl (bNeI) XL.qd) ?_
  refine JP.qq rfl rfl rfl (XL.pkT rfl rfl rfl XL.qd) ?_
  refine JP.done ?_
  refine XQ.thenN ?_
  refine XC.cond rfl (fun hc3 => ?_) (fun hc3 => ?_)
  · refine XC.seq ?_
    refine XC.drw (.q 0 <| .q 1 <| .q 2 <| .q 3 <| .q 4 <| .q 5 <| .q 6 <| .q 7 <| .e 8 <| .done) mixed (by kernel_rfl) rfl ?_
    refine JP.qq rfl rfl rfl (XL.mv rfl rfl XL.qd) ?_
    refine JP.qq rfl rfl rfl (XL.mv rfl rfl XL.qd) ?_
    refine JP.qq rfl rfl rfl (XL.ncP rfl rfl XL.qd) ?_
    refine JP.qq rfl rfl rfl (XL.fa fo_core_Node_1 rfl rfl XL.qd) ?_
    refine JP.qq rfl rfl rfl (XL.ld o_string rfl (by rfl) rfl XL.qd) ?_
    refine JP.qq rfl rfl rfl (XL.fa fo_attr_Set_7 rfl rfl XL.qd) ?_
    refine JP.qq rfl rfl rfl (XL.ld o_int rfl (by rfl) rfl XL.qd) ?_
    refine JP.qq rfl rfl rfl (XL.call hb_core_cut rfl rfl (core_cut_fn _ _ hd hs) (tn) (by rintro _ _ ⟨rfl, rfl⟩; exact XL.qdp (fun w h => h))) ?_
    refine JP.ee rfl ?_
    refine XL.call hb_core_Node_fill rfl rfl (core_Node_fill_fn b (n.touched now) p _ (by rw [cutL_length]; exact hs)) (t2.c tn) ?_
    rintro _ _ ⟨rfl, rfl⟩
    simp only [List.cons_append, List.nil_append]
    refine XL.ed ?_
    refine JP.done ?_
    refine XQ.thenN ?_
    refine XC.reg ?_
    refine XL.mv rfl rfl ?_
    refine XL.ldM g_core_Caller rfl (by rfl) rfl ?_
    refine XL.call hb_core_Caller_time rfl rfl (core_Caller_time_fn _) (tn) ?_
    rintro _ _ ⟨rfl, rfl⟩
    simp only [List.cons_append, List.nil_append]
    refine XL.ncP rfl rfl ?_
    refine XL.fa fo_core_Node_0 rfl rfl ?_
    refine XL.fa fo_attr_Attr_12 rfl rfl ?_
    refine XL.stM g_attr_Time rfl rfl rfl (by rfl) rfl ?_
    refine XL.nil ?_
    refine XQ.thenN ?_
    refine XC.seq ?_
    refine XC.drw (.q 0 <| .q 1 <| .q 2 <| .q 3 <| .q 4 <| .q 5 <| .q 6 <| .q 7 <| .q 8 <| .q 9 <| .q 10 <| .q 11 <| .q 12 <| .q 13 <| .q 14 <| .q 15 <| .q 16 <| .q 17 <| .q 20 <| .e 18 <| .r 20 <| .q 19 <| .done) mixed (by kernel_rfl) rfl ?_
    refine JP.qq rfl rfl rfl (XL.fa fo_attr_Set_8 rfl rfl XL.qd) ?_
    refine JP.qq rfl rfl rfl (XL.ld o_int rfl (by rfl) rfl XL.qd) ?_
    refine JP.qq rfl rfl rfl (XL.fa fo_attr_Set_10 rfl rfl XL.qd) ?_
    refine JP.qq rfl rfl rfl (XL.ldM g_attr_Time rfl (by rfl) rfl XL.qd) ?_
    refine JP.qq rfl rfl rfl (XL.mv rfl rfl XL.qd) ?_
    refine JP.qq rfl rfl rfl (XL.ncP rfl rfl XL.qd) ?_
    refine JP.qq rfl rfl rfl (XL.fa fo_core_Node_0 rfl rfl XL.qd) ?_
    refine JP.qq rfl rfl rfl (XL.fa fo_attr_Attr_11 rfl rfl XL.qd) ?_
    refine JP.qq rfl rfl rfl (XL.bd z_struct_how_int_when_attr_Time_to_P_attr_Time p_struct_how_int_when_attr_Time_to_P_attr_Time rfl rfl XL.qd) ?_
    refine JP.qq rfl rfl rfl (XL.fa fo_attr_Set_9 rfl rfl XL.qd) ?_
    refine JP.qq rfl rfl rfl (XL.ld o_int rfl (by rfl) rfl XL.qd) ?_
    refine JP.qq rfl rfl rfl (XL.fa fo_attr_Set_11 rfl rfl XL.qd) ?_
    refine JP.qq rfl rfl rfl (XL.ldM g_attr_Time rfl (by rfl) rfl XL.qd) ?_
    refine JP.qq rfl rfl rfl (XL.mv rfl rfl XL.qd) ?_
    refine JP.qq rfl rfl rfl (XL.ncP rfl rfl XL.qd) ?_
    refine JP.qq rfl rfl rfl (XL.fa fo_core_Node_0 rfl rfl XL.qd) ?_
    refine JP.qq rfl rfl rfl (XL.fa fo_attr_Attr_12 rfl rfl XL.qd) ?_
    refine JP.qq rfl rfl rfl (XL.bd z_struct_how_int_when_attr_Time_to_P_attr_Time p_struct_how_int_when_attr_Time_to_P_attr_Time rfl rfl XL.qd) ?_
    refine JP.qq rfl rfl rfl (XL.mv rfl rfl XL.qd) ?_
    refine JP.ee rfl ?_
    refine XL.bs (enc := encW b) [11, 13] e_L_struct_how_int_when_attr_Time_to_P_attr_Time z_struct_how_int_when_attr_Time_to_P_attr_Time rfl rfl rfl (by simp) rfl (fun v84 _ => ?_)
    refine XL.ed ?_
    refine JP.rr rfl rfl rfl (XL.mv rfl rfl XL.qd) ?_
    refine JP.qq rfl rfl rfl (XL.lenS e_L_struct_how_int_when_attr_Time_to_P_attr_Time rfl rfl XL.qd) ?_
    refine JP.done ?_
    refine XQ.thenN ?_
    refine XC.block ?_
    refine XC.loop (ι := Nat) (fun i => [(3, pt b3), (84, v84), (85, I 2), (86, I (i : Int))]) (fun i => [sl v84 (encW b) [11, 13] T_struct_how_int_when_attr_Time_to_P_attr_Time 4, ndc b ({ (n.touched now).filled (cutL n.data s) with m0 := now, m1 := 0 }) p, F]) (fun i => i ≤ 2) (fun i => 2 - i) 0 (by omega) ⟨rfl, rfl, rfl, rfl, trivial⟩ (prm (by repeat constructor)) (fun i hi => ?_)
    refine XC.seq ?_
    refine XC.reg ?_
    refine XL.bin rfl rfl rfl (bLss) ?_
    refine XL.nil ?_
    refine XQ.thenN ?_
    refine XC.seq ?_
    refine XC.cond rfl (fun hc4 => ?_) (fun hc4 => ?_)
    · have hlt : i < ([11, 13] : List Nat).length := by simp; omega
      refine XC.skip ?_
      refine XQ.thenN ?_
      refine XC.seq ?_
      refine XC.block ?_
      refine XC.seq ?_
      refine XC.reg ?_
      refine XL.ixS i e_L_struct_how_int_when_attr_Time_to_P_attr_Time rfl rfl rfl hlt rfl (fun b88 _ => ?_)
      refine XL.ldSN g_struct_how_int_when_attr_Time_to_P_attr_Time rfl hlt rfl ?_
      refine XL.al z_struct_how_int_when_attr_Time_to_P_attr_Time rfl (fun b7 => ?_)
      refine XL.stM g_struct_how_int_when_attr_Time_to_P_attr_Time rfl rfl rfl (by rfl) rfl ?_
      refine XL.nil ?_
      refine XQ.thenN ?_
      refine XC.seq ?_
      refine XC.reg ?_
      refine XL.fa fo_struct_how_int_when_attr_Time_to_P_attr_Time_0 rfl rfl ?_
      refine XL.ld o_int rfl (by rfl) rfl ?_
      refine XL.nil ?_
      refine XQ.thenN ?_
      refine XC.block ?_
      refine XC.seq ?_
      refine XC.reg ?_
      refine XL.bin rfl rfl rfl (bEqI) ?_
      refine XL.as rfl rfl ?_
      refine XL.nil ?_
      refine XQ.thenN ?_
      refine XC.condF' rfl (rfl) ?_
      refine XC.seq ?_
      refine XC.reg ?_
      refine XL.bin rfl rfl rfl (bEqI) ?_
      refine XL.as rfl rfl ?_
      refine XL.nil ?_
      refine XQ.thenN ?_
      refine XC.condF' rfl (rfl) ?_
      refine XC.skip ?_
      refine XQ.blkN ?_
      refine XQ.blkN ?_
      refine XQ.thenN ?_
      refine XC.reg ?_
      refine XL.bin rfl rfl rfl (bAdd (by omega)) ?_
      refine XL.mv rfl rfl ?_
      refine XL.nil ?_
      refine XQ.again (i + 1) (by omega) (by omega) ⟨rfl, rfl, rfl, rfl, trivial⟩ (prm (by repeat constructor))
    · refine XC.exit ?_
      refine XQ.thenE ?_
      refine XQ.thenE ?_
      refine XQ.blkE ?_
      exact XQ.ret (.inr rfl) rfl (rN) [ndc b ({ (n.touched now).filled (cutL n.data s) with m0 := now, m1 := 0 }) p] (⟨rfl, congrArg (fun z => [ndc b z p]) ((if_neg hc3).symm)⟩) ((prm (by repeat constructor)))
  · refine XC.skip ?_
    refine XQ.thenN ?_
    refine XC.seq ?_
    refine XC.drw (.q 0 <| .q 1 <| .q 2 <| .q 3 <| .q 4 <| .q 5 <| .q 6 <| .q 7 <| .q 8 <| .q 9 <| .q 10 <| .q 11 <| .q 12 <| .q 13 <| .q 14 <| .q 15 <| .q 16 <| .q 17 <| .q 20 <| .e 18 <| .r 20 <| .q 19 <| .done) mixed (by kernel_rfl) rfl ?_
    refine JP.qq rfl rfl rfl (XL.fa fo_attr_Set_8 rfl rfl XL.qd) ?_
    refine JP.qq rfl rfl rfl (XL.ld o_int rfl (by rfl) rfl XL.qd) ?_
    refine JP.qq rfl rfl rfl (XL.fa fo_attr_Set_10 rfl rfl XL.qd) ?_
    refine JP.qq rfl rfl rfl (XL.ldM g_attr_Time rfl (by rfl) rfl XL.qd) ?_
    refine JP.qq rfl rfl rfl (XL.mv rfl rfl XL.qd) ?_
    refine JP.qq rfl rfl rfl (XL.ncP rfl rfl XL.qd) ?_
    refine JP.qq rfl rfl rfl (XL.fa fo_core_Node_0 rfl rfl XL.qd) ?_
    refine JP.qq rfl rfl rfl (XL.fa fo_attr_Attr_11 rfl rfl XL.qd) ?_
    refine JP.qq rfl rfl rfl (XL.bd z_struct_how_int_when_attr_Time_to_P_attr_Time p_struct_how_int_when_attr_Time_to_P_attr_Time rfl rfl XL.qd) ?_
    refine JP.qq rfl rfl rfl (XL.fa fo_attr_Set_9 rfl rfl XL.qd) ?_
    refine JP.qq rfl rfl rfl (XL.ld o_int rfl (by rfl) rfl XL.qd) ?_
    refine JP.qq rfl rfl rfl (XL.fa fo_attr_Set_11 rfl rfl XL.qd) ?_
    refine JP.qq rfl rfl rfl (XL.ldM g_attr_Time rfl (by rfl) rfl XL.qd) ?_
    refine JP.qq rfl rfl rfl (XL.mv rfl rfl XL.qd) ?_
    refine JP.qq rfl rfl rfl (XL.ncP rfl rfl XL.qd) ?_
    refine JP.qq rfl rfl rfl (XL.fa fo_core_Node_0 rfl rfl XL.qd) ?_
    refine JP.qq rfl rfl rfl (XL.fa fo_attr_Attr_12 rfl rfl XL.qd) ?_
    refine JP.qq rfl rfl rfl (XL.bd z_struct_how_int_when_attr_Time_to_P_attr_Time p_struct_how_int_when_attr_Time_to_P_attr_Time rfl rfl XL.qd) ?_
    refine JP.qq rfl rfl rfl (XL.mv rfl rfl XL.qd) ?_
    refine JP.ee rfl ?_
    refine XL.bs (enc := encW b) [11, 13] e_L_struct_how_int_when_attr_Time_to_P_attr_Time z_struct_how_int_when_attr_Time_to_P_attr_Time rfl rfl rfl (by simp) rfl (fun v84 _ => ?_)
    refine XL.ed ?_
    refine JP.rr rfl rfl rfl (XL.mv rfl rfl XL.qd) ?_
    refine JP.qq rfl rfl rfl (XL.lenS e_L_struct_how_int_when_attr_Time_to_P_attr_Time rfl rfl XL.qd) ?_
    refine JP.done ?_
    refine XQ.thenN ?_
    refine XC.block ?_
    refine XC.loop (ι := Nat) (fun i => [(3, pt b3), (84, v84), (85, I 2), (86, I (i : Int))]) (fun i => [sl v84 (encW b) [11, 13] T_struct_how_int_when_attr_Time_to_P_attr_Time 4, ndc b ({ n.touched now with c0 := now }) p, F]) (fun i => i ≤ 2) (fun i => 2 - i) 0 (by omega) ⟨rfl, rfl, rfl, rfl, trivial⟩ (prm (by repeat constructor)) (fun i hi => ?_)
    refine XC.seq ?_
    refine XC.reg ?_
    refine XL.bin rfl rfl rfl (bLss) ?_
    refine XL.nil ?_
    refine XQ.thenN ?_
    refine XC.seq ?_
    refine XC.cond rfl (fun hc4 => ?_) (fun hc4 => ?_)
    · have hlt : i < ([11, 13] : List Nat).length := by simp; omega
      refine XC.skip ?_
      refine XQ.thenN ?_
      refine XC.seq ?_
      refine XC.block ?_
      refine XC.seq ?_
      refine XC.reg ?_
      refine XL.ixS i e_L_struct_how_int_when_attr_Time_to_P_attr_Time rfl rfl rfl hlt rfl (fun b88 _ => ?_)
      refine XL.ldSN g_struct_how_int_when_attr_Time_to_P_attr_Time rfl hlt rfl ?_
      refine XL.al z_struct_how_int_when_attr_Time_to_P_attr_Time rfl (fun b7 => ?_)
      refine XL.stM g_struct_how_int_when_attr_Time_to_P_attr_Time rfl rfl rfl (by rfl) rfl ?_
      refine XL.nil ?_
      refine XQ.thenN ?_
      refine XC.seq ?_
      refine XC.reg ?_
      refine XL.fa fo_struct_how_int_when_attr_Time_to_P_attr_Time_0 rfl rfl ?_
      refine XL.ld o_int rfl (by rfl) rfl ?_
      refine XL.nil ?_
      refine XQ.thenN ?_
      refine XC.block ?_
      refine XC.seq ?_
      refine XC.reg ?_
      refine XL.bin rfl rfl rfl (bEqI) ?_
      refine XL.as rfl rfl ?_
      refine XL.nil ?_
      refine XQ.thenN ?_
      refine XC.condF' rfl (rfl) ?_
      refine XC.seq ?_
      refine XC.reg ?_
      refine XL.bin rfl rfl rfl (bEqI) ?_
      refine XL.as rfl rfl ?_
      refine XL.nil ?_
      refine XQ.thenN ?_
      refine XC.condF' rfl (rfl) ?_
      refine XC.skip ?_
      refine XQ.blkN ?_
      refine XQ.blkN ?_
      refine XQ.thenN ?_
      refine XC.reg ?_
      refine XL.bin rfl rfl rfl (bAdd (by omega)) ?_
      refine XL.mv rfl rfl ?_
      refine XL.nil ?_
      refine XQ.again (i + 1) (by omega) (by omega) ⟨rfl, rfl, rfl, rfl, trivial⟩ (prm (by repeat constructor))
    · refine XC.exit ?_
      refine XQ.thenE ?_
      refine XQ.thenE ?_
      refine XQ.blkE ?_
      exact XQ.ret (.inr rfl) rfl (rN) [ndc b (n.touched now) p] (⟨rfl, congrArg (fun z => [ndc b z p]) ((if_pos (by omega)).symm)⟩) ((prm (by repeat constructor)))
end Go.Proofs.YteeiccjglmehcaaGreat
