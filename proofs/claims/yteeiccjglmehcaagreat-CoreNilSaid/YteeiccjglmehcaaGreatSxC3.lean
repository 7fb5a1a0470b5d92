/-
  Package core: may it be set, and setting. Printed by mk.py out of spec_core3.py.
-/
import Derived.Test.YteeiccjglmehcaaGreatSxC2
namespace Go.Proofs.YteeiccjglmehcaaGreat
open Go Go.Sx

@[reducible] def encN (n : Int) : List Value := [I n]
theorem noughts {i : Nat} (h : i < ([0, 0] : List Int).length) : ([0, 0] : List Int)[i] = 0 := by
  match i, h with
  | 0, _ => rfl
  | 1, _ => rfl

theorem core_Caller_settable_mode_fn (b : Nat) (n : Nd) (p : Value) (now m s : Int) : Does P F_core_Caller_settable [clV now, pt b, seV true false m s] [ndc b n p] fun u cs => u = I 0 ∧ cs = [ndc b n p] := by
  refine Does.mk (N := 134) fn_core_Caller_settable rfl rfl rfl (fun F => ?_)
  simp only [List.cons_append, List.nil_append]
  refine XC.seq ?_
  refine XC.reg ?_
  refine XL.bx rfl rfl rfl (fun b3 => ?_)
  refine XL.bx rfl rfl rfl (fun b5 => ?_)
  refine XL.as rfl rfl ?_
  refine XL.nil ?_
  refine XQ.thenN ?_
  refine XC.seq ?_
  refine XC.drw (.q 0 <| .q 1 <| .q 2 <| .q 3 <| .q 4 <| .q 5 <| .q 6 <| .e 7 <| .done) mixed (by kernel_rfl) rfl ?_
  refine JP.qq rfl rfl rfl (XL.ldM g_core_Caller rfl (by rfl) rfl XL.qd) ?_
  refine JP.qq rfl rfl rfl (XL.mv rfl rfl XL.qd) ?_
  refine JP.qq rfl rfl rfl (XL.call hb_core_Caller_owns rfl rfl (core_Caller_owns_fn _ _) (tn) (by rintro _ _ ⟨rfl, rfl⟩; exact XL.qdp (fun w h => h))) ?_
  refine JP.qq rfl rfl rfl (XL.ldM g_core_Caller rfl (by rfl) rfl XL.qd) ?_
  refine JP.qq rfl rfl rfl (XL.mv rfl rfl XL.qd) ?_
  refine JP.qq rfl rfl rfl (XL.call hb_core_Caller_may rfl rfl (core_Caller_may_fn b n p _ _) (t2.c tn) (by rintro _ _ ⟨rfl, rfl⟩; exact XL.qdp (fun w h => prm (by repeat constructor) _ h))) ?_
  refine JP.qq rfl rfl rfl (XL.as rfl rfl XL.qd) ?_
  refine JP.ee rfl ?_
  refine XL.as rfl rfl ?_
  refine XL.ed ?_
  refine JP.done ?_
  refine XQ.thenN ?_
  refine XC.seq ?_
  refine XC.drw (.q 0 <| .q 1 <| .q 2 <| .q 3 <| .q 4 <| .q 5 <| .q 6 <| .q 7 <| .q 8 <| .q 9 <| .q 10 <| .q 11 <| .q 12 <| .q 13 <| .q 14 <| .q 15 <| .q 16 <| .q 17 <| .q 18 <| .q 19 <| .q 20 <| .q 21 <| .q 22 <| .q 23 <| .q 24 <| .q 25 <| .q 26 <| .q 27 <| .q 28 <| .q 29 <| .e 30 <| .done) mixed (by kernel_rfl) rfl ?_
  refine JP.qq rfl rfl rfl (XL.fa fo_core_Caller_0 rfl rfl XL.qd) ?_
  refine JP.qq rfl rfl rfl (XL.fa fo_api_Who_0 rfl rfl XL.qd) ?_
  refine JP.qq rfl rfl rfl (XL.ld o_int rfl (by rfl) rfl XL.qd) ?_
  refine JP.qq rfl rfl rfl (XL.bin rfl rfl rfl (bEqI) XL.qd) ?_
  refine JP.qq rfl rfl rfl (XL.mv rfl rfl XL.qd) ?_
  refine JP.re 23 (u := .bool true) rfl (rfl) ?_
  refine JP.qq rfl rfl rfl (XL.no rfl rfl XL.qd) ?_
  refine JP.qq rfl rfl rfl (XL.no rfl rfl XL.qd) ?_
  refine JP.qq rfl rfl rfl (XL.no rfl rfl XL.qd) ?_
  refine JP.qq rfl rfl rfl (XL.no rfl rfl XL.qd) ?_
  refine JP.qq rfl rfl rfl (XL.no rfl rfl XL.qd) ?_
  refine JP.qq rfl rfl rfl (XL.no rfl rfl XL.qd) ?_
  refine JP.qq rfl rfl rfl (XL.no rfl rfl XL.qd) ?_
  refine JP.qq rfl rfl rfl (XL.no rfl rfl XL.qd) ?_
  refine JP.qq rfl rfl rfl (XL.pkT rfl rfl rfl XL.qd) ?_
  refine JP.qq rfl rfl rfl (XL.mv rfl rfl XL.qd) ?_
  refine JP.qq rfl rfl rfl (XL.no rfl rfl XL.qd) ?_
  refine JP.qq rfl rfl rfl (XL.no rfl rfl XL.qd) ?_
  refine JP.qq rfl rfl rfl (XL.no rfl rfl XL.qd) ?_
  refine JP.qq rfl rfl rfl (XL.no rfl rfl XL.qd) ?_
  refine JP.qq rfl rfl rfl (XL.no rfl rfl XL.qd) ?_
  refine JP.qq rfl rfl rfl (XL.no rfl rfl XL.qd) ?_
  refine JP.qq rfl rfl rfl (XL.pkT rfl rfl rfl XL.qd) ?_
  refine JP.qq rfl rfl rfl (XL.mv rfl rfl XL.qd) ?_
  refine JP.qq rfl rfl rfl (XL.no rfl rfl XL.qd) ?_
  refine JP.qq rfl rfl rfl (XL.no rfl rfl XL.qd) ?_
  refine JP.qq rfl rfl rfl (XL.no rfl rfl XL.qd) ?_
  refine JP.qq rfl rfl rfl (XL.no rfl rfl XL.qd) ?_
  refine JP.qq rfl rfl rfl (XL.no rfl rfl XL.qd) ?_
  refine JP.qq rfl rfl rfl (XL.no rfl rfl XL.qd) ?_
  refine JP.qq rfl rfl rfl (XL.pkT rfl rfl rfl XL.qd) ?_
  refine JP.ee rfl ?_
  refine XL.as rfl rfl ?_
  refine XL.ed ?_
  refine JP.done ?_
  refine XQ.thenN ?_
  refine XC.seq ?_
  refine XC.seq ?_
  refine XC.drw (.q 0 <| .q 1 <| .q 2 <| .q 3 <| .q 4 <| .q 5 <| .q 6 <| .q 7 <| .q 8 <| .q 9 <| .q 10 <| .q 11 <| .q 12 <| .q 13 <| .q 14 <| .q 15 <| .q 16 <| .q 17 <| .q 18 <| .q 19 <| .q 20 <| .q 21 <| .q 22 <| .q 23 <| .q 24 <| .q 25 <| .q 26 <| .q 27 <| .q 28 <| .q 29 <| .q 30 <| .q 31 <| .q 32 <| .q 33 <| .q 34 <| .q 35 <| .q 36 <| .q 37 <| .q 38 <| .q 39 <| .q 40 <| .done) mixed (by kernel_rfl) rfl ?_
  refine JP.qq rfl rfl rfl (XL.fa fo_attr_Set_0 rfl rfl XL.qd) ?_
  refine JP.qq rfl rfl rfl (XL.ld o_bool rfl (by rfl) rfl XL.qd) ?_
  refine JP.qq rfl rfl rfl (XL.mv rfl rfl XL.qd) ?_
  refine JP.re 51 (u := .bool true) rfl (rfl) ?_
  refine JP.qq rfl rfl rfl (XL.mv rfl rfl XL.qd) ?_
  refine JP.qq rfl rfl rfl (XL.notT rfl rfl XL.qd) ?_
  refine JP.qq rfl rfl rfl (XL.pkT rfl rfl rfl XL.qd) ?_
  refine JP.qq rfl rfl rfl (XL.mv rfl rfl XL.qd) ?_
  refine JP.re 55 (u := .bool false) rfl (rfl) ?_
  refine JP.qq rfl rfl rfl (XL.fa fo_attr_Set_1 rfl rfl XL.qd) ?_
  refine JP.qq rfl rfl rfl (XL.ld o_bool rfl (by rfl) rfl XL.qd) ?_
  refine JP.qq rfl rfl rfl (XL.mv rfl rfl XL.qd) ?_
  refine JP.re 58 (u := .bool false) rfl (rfl) ?_
  refine JP.qq rfl rfl rfl (XL.no rfl rfl XL.qd) ?_
  refine JP.qq rfl rfl rfl (XL.no rfl rfl XL.qd) ?_
  refine JP.qq rfl rfl rfl (XL.no rfl rfl XL.qd) ?_
  refine JP.qq rfl rfl rfl (XL.no rfl rfl XL.qd) ?_
  refine JP.qq rfl rfl rfl (XL.pkF rfl rfl rfl XL.qd) ?_
  refine JP.qq rfl rfl rfl (XL.mv rfl rfl XL.qd) ?_
  refine JP.qq rfl rfl rfl (XL.no rfl rfl XL.qd) ?_
  refine JP.qq rfl rfl rfl (XL.no rfl rfl XL.qd) ?_
  refine JP.qq rfl rfl rfl (XL.no rfl rfl XL.qd) ?_
  refine JP.qq rfl rfl rfl (XL.no rfl rfl XL.qd) ?_
  refine JP.qq rfl rfl rfl (XL.no rfl rfl XL.qd) ?_
  refine JP.qq rfl rfl rfl (XL.no rfl rfl XL.qd) ?_
  refine JP.qq rfl rfl rfl (XL.no rfl rfl XL.qd) ?_
  refine JP.qq rfl rfl rfl (XL.no rfl rfl XL.qd) ?_
  refine JP.qq rfl rfl rfl (XL.no rfl rfl XL.qd) ?_
  refine JP.qq rfl rfl rfl (XL.no rfl rfl XL.qd) ?_
  refine JP.qq rfl rfl rfl (XL.no rfl rfl XL.qd) ?_
  refine JP.qq rfl rfl rfl (XL.no rfl rfl XL.qd) ?_
  refine JP.qq rfl rfl rfl (XL.pkF rfl rfl rfl XL.qd) ?_
  refine JP.qq rfl rfl rfl (XL.pkF rfl rfl rfl XL.qd) ?_
  refine JP.qq rfl rfl rfl (XL.mv rfl rfl XL.qd) ?_
  refine JP.qq rfl rfl rfl (XL.fa fo_attr_Set_2 rfl rfl XL.qd) ?_
  refine JP.qq rfl rfl rfl (XL.ld o_bool rfl (by rfl) rfl XL.qd) ?_
  refine JP.qq rfl rfl rfl (XL.mv rfl rfl XL.qd) ?_
  refine JP.re 82 (u := .bool false) rfl (rfl) ?_
  refine JP.qq rfl rfl rfl (XL.no rfl rfl XL.qd) ?_
  refine JP.qq rfl rfl rfl (XL.no rfl rfl XL.qd) ?_
  refine JP.qq rfl rfl rfl (XL.no rfl rfl XL.qd) ?_
  refine JP.qq rfl rfl rfl (XL.no rfl rfl XL.qd) ?_
  refine JP.qq rfl rfl rfl (XL.no rfl rfl XL.qd) ?_
  refine JP.qq rfl rfl rfl (XL.pkF rfl rfl rfl XL.qd) ?_
  refine JP.qq rfl rfl rfl (XL.pkF rfl rfl rfl XL.qd) ?_
  refine JP.done ?_
  refine XQ.thenN ?_
  refine XC.condF' rfl (rfl) ?_
  refine XC.skip ?_
  refine XQ.thenN ?_
  refine XC.seq ?_
  refine XC.seq ?_
  refine XC.reg ?_
  refine XL.fa fo_attr_Set_3 rfl rfl ?_
  refine XL.ld o_bool rfl (by rfl) rfl ?_
  refine XL.nil ?_
  refine XQ.thenN ?_
  refine XC.condF' rfl (rfl) ?_
  refine XC.skip ?_
  refine XQ.thenN ?_
  refine XC.seq ?_
  refine XC.seq ?_
  refine XC.reg ?_
  refine XL.fa fo_attr_Set_8 rfl rfl ?_
  refine XL.ld o_int rfl (by rfl) rfl ?_
  refine XL.fa fo_attr_Set_9 rfl rfl ?_
  refine XL.ld o_int rfl (by rfl) rfl ?_
  refine XL.bs (enc := encN) [0, 0] e_L_int z_int rfl rfl rfl (by simp) rfl (fun v109 _ => ?_)
  refine XL.lenS e_L_int rfl rfl ?_
  refine XL.mv rfl rfl ?_
  refine XL.nil ?_
  refine XQ.thenN ?_
  refine XC.block ?_
  refine XC.loop (ι := Nat) (fun i => [(5, pt b5), (3, pt b3), (7, B true), (8, B true), (109, v109), (110, I 2), (111, I (i : Int))]) (fun i => [sl v109 encN [0, 0] T_int 1, ndc b n p, F]) (fun i => i ≤ 2) (fun i => 2 - i) 0 (by omega) ⟨rfl, rfl, rfl, rfl, rfl, rfl, rfl, trivial⟩ (prm (by repeat constructor)) (fun i hi => ?_)
  refine XC.seq ?_
  refine XC.reg ?_
  refine XL.bin rfl rfl rfl (bLss) ?_
  refine XL.nil ?_
  refine XQ.thenN ?_
  refine XC.seq ?_
  refine XC.cond rfl (fun hc4 => ?_) (fun hc4 => ?_)
  · have hlt : i < ([0, 0] : List Int).length := by simp; omega
    refine XC.skip ?_
    refine XQ.thenN ?_
    refine XC.seq ?_
    refine XC.block ?_
    refine XC.seq ?_
    refine XC.reg ?_
    refine XL.ixS i e_L_int rfl rfl rfl hlt rfl (fun b113 _ => ?_)
    refine XL.ldS1 (u := I 0) o_int rfl hlt (congrArg encN (noughts hlt)) rfl ?_
    refine XL.as rfl rfl ?_
    refine XL.nil ?_
    refine XQ.thenN ?_
    refine XC.block ?_
    refine XC.seq ?_
    refine XC.reg ?_
    refine XL.mv rfl rfl ?_
    refine XL.bin rfl rfl rfl (bEqI) ?_
    refine XL.mv rfl rfl ?_
    refine XL.re 118 (u := .bool false) rfl (rfl) ?_
    refine XL.no rfl rfl ?_
    refine XL.no rfl rfl ?_
    refine XL.pkF rfl rfl rfl ?_
    refine XL.as rfl rfl ?_
    refine XL.nil ?_
    refine XQ.thenN ?_
    refine XC.condF' rfl (rfl) ?_
    refine XC.seq ?_
    refine XC.reg ?_
    refine XL.mv rfl rfl ?_
    refine XL.bin rfl rfl rfl (bEqI) ?_
    refine XL.mv rfl rfl ?_
    refine XL.re 125 (u := .bool false) rfl (rfl) ?_
    refine XL.no rfl rfl ?_
    refine XL.no rfl rfl ?_
    refine XL.pkF rfl rfl rfl ?_
    refine XL.mv rfl rfl ?_
    refine XL.no rfl rfl ?_
    refine XL.no rfl rfl ?_
    refine XL.pkF rfl rfl rfl ?_
    refine XL.as rfl rfl ?_
    refine XL.nil ?_
    refine XQ.thenN ?_
    refine XC.condF' rfl (rfl) ?_
    refine XC.skip ?_
    refine XQ.blkN ?_
    refine XQ.blkN ?_
    refine XQ.thenN ?_
    refine XC.reg ?_
    refine XL.bin rfl rfl rfl (bAdd (by omega)) ?_
    refine XL.mv rfl rfl ?_
    refine XL.nil ?_
    refine XQ.again (i + 1) (by omega) (by omega) ⟨rfl, rfl, rfl, rfl, rfl, rfl, rfl, trivial⟩ (fun w h => h)
  · refine XC.exit ?_
    refine XQ.thenE ?_
    refine XQ.thenE ?_
    refine XQ.blkE ?_
    refine XQ.thenN ?_
    refine XC.seq ?_
    refine XC.reg ?_
    refine XL.as rfl rfl ?_
    refine XL.nil ?_
    refine XQ.thenN ?_
    refine XC.ret ?_
    exact XQ.ret (.inl rfl) rfl (rC (resT rfl) <| rN) [ndc b n p] (⟨rfl, rfl⟩) ((prm (by repeat constructor)))

theorem core_Caller_settable_size_fn (b : Nat) (n : Nd) (p : Value) (now m s : Int) (hk : n.kind = 1) (hs : 0 ≤ s) (hs2 : s ≤ 8192) : Does P F_core_Caller_settable [clV now, pt b, seV false true m s] [ndc b n p] fun u cs => u = I 0 ∧ cs = [ndc b n p] := by
  refine Does.mk (N := 134) fn_core_Caller_settable rfl rfl rfl (fun F => ?_)
  simp only [List.cons_append, List.nil_append]
  refine XC.seq ?_
  refine XC.reg ?_
  refine XL.bx rfl rfl rfl (fun b3 => ?_)
  refine XL.bx rfl rfl rfl (fun b5 => ?_)
  refine XL.as rfl rfl ?_
  refine XL.nil ?_
  refine XQ.thenN ?_
  refine XC.seq ?_
  refine XC.drw (.q 0 <| .q 1 <| .q 2 <| .q 3 <| .q 4 <| .q 5 <| .q 6 <| .e 7 <| .done) mixed (by kernel_rfl) rfl ?_
  refine JP.qq rfl rfl rfl (XL.ldM g_core_Caller rfl (by rfl) rfl XL.qd) ?_
  refine JP.qq rfl rfl rfl (XL.mv rfl rfl XL.qd) ?_
  refine JP.qq rfl rfl rfl (XL.call hb_core_Caller_owns rfl rfl (core_Caller_owns_fn _ _) (tn) (by rintro _ _ ⟨rfl, rfl⟩; exact XL.qdp (fun w h => h))) ?_
  refine JP.qq rfl rfl rfl (XL.ldM g_core_Caller rfl (by rfl) rfl XL.qd) ?_
  refine JP.qq rfl rfl rfl (XL.mv rfl rfl XL.qd) ?_
  refine JP.qq rfl rfl rfl (XL.call hb_core_Caller_may rfl rfl (core_Caller_may_fn b n p _ _) (t2.c tn) (by rintro _ _ ⟨rfl, rfl⟩; exact XL.qdp (fun w h => prm (by repeat constructor) _ h))) ?_
  refine JP.qq rfl rfl rfl (XL.as rfl rfl XL.qd) ?_
  refine JP.ee rfl ?_
  refine XL.as rfl rfl ?_
  refine XL.ed ?_
  refine JP.done ?_
  refine XQ.thenN ?_
  refine XC.seq ?_
  refine XC.drw (.q 0 <| .q 1 <| .q 2 <| .q 3 <| .q 4 <| .q 5 <| .q 6 <| .q 7 <| .q 8 <| .q 9 <| .q 10 <| .q 11 <| .q 12 <| .q 13 <| .q 14 <| .q 15 <| .q 16 <| .q 17 <| .q 18 <| .q 19 <| .q 20 <| .q 21 <| .q 22 <| .q 23 <| .q 24 <| .q 25 <| .q 26 <| .q 27 <| .q 28 <| .q 29 <| .e 30 <| .done) mixed (by kernel_rfl) rfl ?_
  refine JP.qq rfl rfl rfl (XL.fa fo_core_Caller_0 rfl rfl XL.qd) ?_
  refine JP.qq rfl rfl rfl (XL.fa fo_api_Who_0 rfl rfl XL.qd) ?_
  refine JP.qq rfl rfl rfl (XL.ld o_int rfl (by rfl) rfl XL.qd) ?_
  refine JP.qq rfl rfl rfl (XL.bin rfl rfl rfl (bEqI) XL.qd) ?_
  refine JP.qq rfl rfl rfl (XL.mv rfl rfl XL.qd) ?_
  refine JP.re 23 (u := .bool true) rfl (rfl) ?_
  refine JP.qq rfl rfl rfl (XL.no rfl rfl XL.qd) ?_
  refine JP.qq rfl rfl rfl (XL.no rfl rfl XL.qd) ?_
  refine JP.qq rfl rfl rfl (XL.no rfl rfl XL.qd) ?_
  refine JP.qq rfl rfl rfl (XL.no rfl rfl XL.qd) ?_
  refine JP.qq rfl rfl rfl (XL.no rfl rfl XL.qd) ?_
  refine JP.qq rfl rfl rfl (XL.no rfl rfl XL.qd) ?_
  refine JP.qq rfl rfl rfl (XL.no rfl rfl XL.qd) ?_
  refine JP.qq rfl rfl rfl (XL.no rfl rfl XL.qd) ?_
  refine JP.qq rfl rfl rfl (XL.pkT rfl rfl rfl XL.qd) ?_
  refine JP.qq rfl rfl rfl (XL.mv rfl rfl XL.qd) ?_
  refine JP.qq rfl rfl rfl (XL.no rfl rfl XL.qd) ?_
  refine JP.qq rfl rfl rfl (XL.no rfl rfl XL.qd) ?_
  refine JP.qq rfl rfl rfl (XL.no rfl rfl XL.qd) ?_
  refine JP.qq rfl rfl rfl (XL.no rfl rfl XL.qd) ?_
  refine JP.qq rfl rfl rfl (XL.no rfl rfl XL.qd) ?_
  refine JP.qq rfl rfl rfl (XL.no rfl rfl XL.qd) ?_
  refine JP.qq rfl rfl rfl (XL.pkT rfl rfl rfl XL.qd) ?_
  refine JP.qq rfl rfl rfl (XL.mv rfl rfl XL.qd) ?_
  refine JP.qq rfl rfl rfl (XL.no rfl rfl XL.qd) ?_
  refine JP.qq rfl rfl rfl (XL.no rfl rfl XL.qd) ?_
  refine JP.qq rfl rfl rfl (XL.no rfl rfl XL.qd) ?_
  refine JP.qq rfl rfl rfl (XL.no rfl rfl XL.qd) ?_
  refine JP.qq rfl rfl rfl (XL.no rfl rfl XL.qd) ?_
  refine JP.qq rfl rfl rfl (XL.no rfl rfl XL.qd) ?_
  refine JP.qq rfl rfl rfl (XL.pkT rfl rfl rfl XL.qd) ?_
  refine JP.ee rfl ?_
  refine XL.as rfl rfl ?_
  refine XL.ed ?_
  refine JP.done ?_
  refine XQ.thenN ?_
  refine XC.seq ?_
  refine XC.seq ?_
  refine XC.drw (.q 0 <| .q 1 <| .q 2 <| .q 3 <| .q 4 <| .q 5 <| .q 6 <| .q 7 <| .q 8 <| .q 9 <| .q 10 <| .q 11 <| .q 12 <| .q 13 <| .q 14 <| .q 15 <| .q 16 <| .q 17 <| .q 18 <| .q 19 <| .q 20 <| .q 21 <| .q 22 <| .q 23 <| .q 24 <| .q 25 <| .q 26 <| .q 27 <| .q 28 <| .q 29 <| .q 30 <| .q 31 <| .q 32 <| .q 33 <| .q 34 <| .q 35 <| .q 36 <| .q 37 <| .q 38 <| .q 39 <| .q 40 <| .done) mixed (by kernel_rfl) rfl ?_
  refine JP.qq rfl rfl rfl (XL.fa fo_attr_Set_0 rfl rfl XL.qd) ?_
  refine JP.qq rfl rfl rfl (XL.ld o_bool rfl (by rfl) rfl XL.qd) ?_
  refine JP.qq rfl rfl rfl (XL.mv rfl rfl XL.qd) ?_
  refine JP.re 51 (u := .bool false) rfl (rfl) ?_
  refine JP.qq rfl rfl rfl (XL.no rfl rfl XL.qd) ?_
  refine JP.qq rfl rfl rfl (XL.no rfl rfl XL.qd) ?_
  refine JP.qq rfl rfl rfl (XL.pkF rfl rfl rfl XL.qd) ?_
  refine JP.qq rfl rfl rfl (XL.mv rfl rfl XL.qd) ?_
  refine JP.qq rfl rfl rfl (XL.fa fo_attr_Set_1 rfl rfl XL.qd) ?_
  refine JP.qq rfl rfl rfl (XL.ld o_bool rfl (by rfl) rfl XL.qd) ?_
  refine JP.qq rfl rfl rfl (XL.mv rfl rfl XL.qd) ?_
  refine JP.re 58 (u := .bool false) rfl (rfl) ?_
  refine JP.qq rfl rfl rfl (XL.no rfl rfl XL.qd) ?_
  refine JP.qq rfl rfl rfl (XL.no rfl rfl XL.qd) ?_
  refine JP.qq rfl rfl rfl (XL.no rfl rfl XL.qd) ?_
  refine JP.qq rfl rfl rfl (XL.no rfl rfl XL.qd) ?_
  refine JP.qq rfl rfl rfl (XL.pkF rfl rfl rfl XL.qd) ?_
  refine JP.qq rfl rfl rfl (XL.mv rfl rfl XL.qd) ?_
  refine JP.qq rfl rfl rfl (XL.no rfl rfl XL.qd) ?_
  refine JP.qq rfl rfl rfl (XL.no rfl rfl XL.qd) ?_
  refine JP.qq rfl rfl rfl (XL.no rfl rfl XL.qd) ?_
  refine JP.qq rfl rfl rfl (XL.no rfl rfl XL.qd) ?_
  refine JP.qq rfl rfl rfl (XL.no rfl rfl XL.qd) ?_
  refine JP.qq rfl rfl rfl (XL.no rfl rfl XL.qd) ?_
  refine JP.qq rfl rfl rfl (XL.no rfl rfl XL.qd) ?_
  refine JP.qq rfl rfl rfl (XL.no rfl rfl XL.qd) ?_
  refine JP.qq rfl rfl rfl (XL.no rfl rfl XL.qd) ?_
  refine JP.qq rfl rfl rfl (XL.no rfl rfl XL.qd) ?_
  refine JP.qq rfl rfl rfl (XL.no rfl rfl XL.qd) ?_
  refine JP.qq rfl rfl rfl (XL.no rfl rfl XL.qd) ?_
  refine JP.qq rfl rfl rfl (XL.pkF rfl rfl rfl XL.qd) ?_
  refine JP.qq rfl rfl rfl (XL.pkF rfl rfl rfl XL.qd) ?_
  refine JP.qq rfl rfl rfl (XL.mv rfl rfl XL.qd) ?_
  refine JP.qq rfl rfl rfl (XL.fa fo_attr_Set_2 rfl rfl XL.qd) ?_
  refine JP.qq rfl rfl rfl (XL.ld o_bool rfl (by rfl) rfl XL.qd) ?_
  refine JP.qq rfl rfl rfl (XL.mv rfl rfl XL.qd) ?_
  refine JP.re 82 (u := .bool false) rfl (rfl) ?_
  refine JP.qq rfl rfl rfl (XL.no rfl rfl XL.qd) ?_
  refine JP.qq rfl rfl rfl (XL.no rfl rfl XL.qd) ?_
  refine JP.qq rfl rfl rfl (XL.no rfl rfl XL.qd) ?_
  refine JP.qq rfl rfl rfl (XL.no rfl rfl XL.qd) ?_
  refine JP.qq rfl rfl rfl (XL.no rfl rfl XL.qd) ?_
  refine JP.qq rfl rfl rfl (XL.pkF rfl rfl rfl XL.qd) ?_
  refine JP.qq rfl rfl rfl (XL.pkF rfl rfl rfl XL.qd) ?_
  refine JP.done ?_
  refine XQ.thenN ?_
  refine XC.condF' rfl (rfl) ?_
  refine XC.skip ?_
  refine XQ.thenN ?_
  refine XC.seq ?_
  refine XC.seq ?_
  refine XC.reg ?_
  refine XL.fa fo_attr_Set_3 rfl rfl ?_
  refine XL.ld o_bool rfl (by rfl) rfl ?_
  refine XL.nil ?_
  refine XQ.thenN ?_
  refine XC.condT' rfl (rfl) ?_
  refine XC.seq ?_
  refine XC.seq ?_
  refine XC.reg ?_
  refine XL.mv rfl rfl ?_
  refine XL.notT rfl rfl ?_
  refine XL.mv rfl rfl ?_
  refine XL.re 94 (u := .bool false) rfl (rfl) ?_
  refine XL.no rfl rfl ?_
  refine XL.no rfl rfl ?_
  refine XL.pkF rfl rfl rfl ?_
  refine XL.nil ?_
  refine XQ.thenN ?_
  refine XC.condF' rfl (rfl) ?_
  refine XC.skip ?_
  refine XQ.thenN ?_
  refine XC.seq ?_
  refine XC.reg ?_
  refine XL.mv rfl rfl ?_
  refine XL.fa fo_attr_Set_7 rfl rfl ?_
  refine XL.ld o_int rfl (by rfl) rfl ?_
  refine XL.call hb_core_sizable rfl rfl (core_sizable_fn b n p hk s hs hs2) (t2.c tn) ?_
  rintro _ _ ⟨rfl, rfl⟩
  simp only [List.cons_append, List.nil_append]
  refine XL.as rfl rfl ?_
  refine XL.nil ?_
  refine XQ.thenN ?_
  refine XC.seq ?_
  refine XC.reg ?_
  refine XL.mv rfl rfl ?_
  refine XL.bin rfl rfl rfl (bNeI) ?_
  refine XL.nil ?_
  refine XQ.thenN ?_
  refine XC.condF' rfl (rfl) ?_
  refine XC.skip ?_
  refine XQ.thenN ?_
  refine XC.seq ?_
  refine XC.seq ?_
  refine XC.reg ?_
  refine XL.fa fo_attr_Set_8 rfl rfl ?_
  refine XL.ld o_int rfl (by rfl) rfl ?_
  refine XL.fa fo_attr_Set_9 rfl rfl ?_
  refine XL.ld o_int rfl (by rfl) rfl ?_
  refine XL.bs (enc := encN) [0, 0] e_L_int z_int rfl rfl rfl (by simp) rfl (fun v109 _ => ?_)
  refine XL.lenS e_L_int rfl rfl ?_
  refine XL.mv rfl rfl ?_
  refine XL.nil ?_
  refine XQ.thenN ?_
  refine XC.block ?_
  refine XC.loop (ι := Nat) (fun i => [(5, pt b5), (3, pt b3), (7, B true), (8, B true), (109, v109), (110, I 2), (111, I (i : Int))]) (fun i => [sl v109 encN [0, 0] T_int 1, ndc b n p, F]) (fun i => i ≤ 2) (fun i => 2 - i) 0 (by omega) ⟨rfl, rfl, rfl, rfl, rfl, rfl, rfl, trivial⟩ (prm (by repeat constructor)) (fun i hi => ?_)
  refine XC.seq ?_
  refine XC.reg ?_
  refine XL.bin rfl rfl rfl (bLss) ?_
  refine XL.nil ?_
  refine XQ.thenN ?_
  refine XC.seq ?_
  refine XC.cond rfl (fun hc4 => ?_) (fun hc4 => ?_)
  · have hlt : i < ([0, 0] : List Int).length := by simp; omega
    refine XC.skip ?_
    refine XQ.thenN ?_
    refine XC.seq ?_
    refine XC.block ?_
    refine XC.seq ?_
    refine XC.reg ?_
    refine XL.ixS i e_L_int rfl rfl rfl hlt rfl (fun b113 _ => ?_)
    refine XL.ldS1 (u := I 0) o_int rfl hlt (congrArg encN (noughts hlt)) rfl ?_
    refine XL.as rfl rfl ?_
    refine XL.nil ?_
    refine XQ.thenN ?_
    refine XC.block ?_
    refine XC.seq ?_
    refine XC.reg ?_
    refine XL.mv rfl rfl ?_
    refine XL.bin rfl rfl rfl (bEqI) ?_
    refine XL.mv rfl rfl ?_
    refine XL.re 118 (u := .bool false) rfl (rfl) ?_
    refine XL.no rfl rfl ?_
    refine XL.no rfl rfl ?_
    refine XL.pkF rfl rfl rfl ?_
    refine XL.as rfl rfl ?_
    refine XL.nil ?_
    refine XQ.thenN ?_
    refine XC.condF' rfl (rfl) ?_
    refine XC.seq ?_
    refine XC.reg ?_
    refine XL.mv rfl rfl ?_
    refine XL.bin rfl rfl rfl (bEqI) ?_
    refine XL.mv rfl rfl ?_
    refine XL.re 125 (u := .bool false) rfl (rfl) ?_
    refine XL.no rfl rfl ?_
    refine XL.no rfl rfl ?_
    refine XL.pkF rfl rfl rfl ?_
    refine XL.mv rfl rfl ?_
    refine XL.no rfl rfl ?_
    refine XL.no rfl rfl ?_
    refine XL.pkF rfl rfl rfl ?_
    refine XL.as rfl rfl ?_
    refine XL.nil ?_
    refine XQ.thenN ?_
    refine XC.condF' rfl (rfl) ?_
    refine XC.skip ?_
    refine XQ.blkN ?_
    refine XQ.blkN ?_
    refine XQ.thenN ?_
    refine XC.reg ?_
    refine XL.bin rfl rfl rfl (bAdd (by omega)) ?_
    refine XL.mv rfl rfl ?_
    refine XL.nil ?_
    refine XQ.again (i + 1) (by omega) (by omega) ⟨rfl, rfl, rfl, rfl, rfl, rfl, rfl, trivial⟩ (fun w h => h)
  · refine XC.exit ?_
    refine XQ.thenE ?_
    refine XQ.thenE ?_
    refine XQ.blkE ?_
    refine XQ.thenN ?_
    refine XC.seq ?_
    refine XC.reg ?_
    refine XL.as rfl rfl ?_
    refine XL.nil ?_
    refine XQ.thenN ?_
    refine XC.ret ?_
    exact XQ.ret (.inl rfl) rfl (rC (resT rfl) <| rN) [ndc b n p] (⟨rfl, rfl⟩) ((prm (by repeat constructor)))
end Go.Proofs.YteeiccjglmehcaaGreat
