/-
  Package core: what is read and written. Printed by mk.py out of spec_cored.py.
-/
import Derived.Test.YteeiccjglmehcaaGreatSxCb
namespace Go.Proofs.YteeiccjglmehcaaGreat
open Go Go.Sx

set_option synthInstance.maxSize 4000
set_option synthInstance.maxHeartbeats 200000
/-- What a text is when another is written into it. -/
def wrL (L : List UInt8) (o : Nat) (d : List UInt8) : List UInt8 := if d = [] then L else (cutL L (max L.length (o + d.length))).take o ++ d ++ (cutL L (max L.length (o + d.length))).drop (o + d.length)
theorem wrL_length {L : List UInt8} {o : Nat} {d : List UInt8} (h : d ≠ []) : (wrL L o d).length = max L.length (o + d.length) := by
  rw [wrL, if_neg h]
  simp only [List.length_append, List.length_take, List.length_drop, cutL_length]
  omega
theorem wrL_le (L : List UInt8) (o : Nat) (d : List UInt8) : (wrL L o d).length ≤ max L.length (o + d.length) := by
  by_cases h : d = []
  · rw [wrL, if_pos h]; omega
  · rw [wrL_length h]; exact Nat.le_refl _
/-- A file of these bytes. -/
def fileC (b : Nat) (L : List UInt8) : Chunk := exi fun n : Nd => [pur (n.kind = 1 ∧ n.data = L ∧ n.size = (L.length : Int)), ndc b n nilP]
theorem Does.perm3 {f : FuncId} {args : List Value} {a c d e : Chunk} {R : Value → List Chunk → Prop} (h : Does P f args [a, c, d, e] R) : Does P f args [e, a, c, d] R :=
  fun F w hs => h F w (prm (by repeat constructor) _ hs)
theorem fileC_shut {b : Nat} {n : Nd} {L : List UInt8} {r : List Chunk} {w : World} (h1 : n.kind = 1 ∧ n.data = L ∧ n.size = (L.length : Int)) (h : Sat (ndc b n nilP :: r) w) : Sat (fileC b L :: r) w :=
  Sat.shut (f := fun n : Nd => [pur (n.kind = 1 ∧ n.data = L ∧ n.size = (L.length : Int)), ndc b n nilP]) n (Sat.pure h1 h)

theorem core_FS_Write_fn (f : Nat) (vm vt : Value) (last : Int) (es : List (Int × Value)) (id : Int) (b : Nat) (hb : getM es id = some (pt b)) (now : Int) (n : Nd) (hk : n.kind = 1) (hz : n.size = (n.data.length : Int)) (o : Nat) (d : List UInt8) (hd : d ≠ []) (ho : o ≤ 4000) (hd2 : d.length ≤ 500) (hl : n.data.length ≤ 8192) : Does P F_core_FS_Write [pt f, clV now, I id, I (o : Int), S d] [fsc f vm vt last, mapC vm encKI es, metC vt, ndc b n nilP] fun u cs => u = I 0 ∧ cs = [fsc f vm vt last, mapC vm encKI es, metC vt, ndc b { n.filled (wrL n.data o d) with m0 := now, m1 := 0, c0 := now, c1 := 0 } nilP] := by
  refine Does.mk (N := 81) fn_core_FS_Write rfl rfl rfl (fun F => ?_)
  simp only [List.cons_append, List.nil_append]
  refine XC.seq ?_
  refine XC.reg ?_
  refine XL.bx rfl rfl rfl (fun b6 => ?_)
  refine XL.as rfl rfl ?_
  refine XL.nil ?_
  refine XQ.thenN ?_
  refine XC.seq ?_
  refine XC.reg ?_
  refine XL.mv rfl rfl ?_
  refine XL.ldM g_core_Caller rfl (by rfl) rfl ?_
  refine XL.mv rfl rfl ?_
  refine XL.call hb_core_FS_file rfl rfl (core_FS_file_fn f vm vt last es id b hb n nilP hk now 2) (Tk.take (by repeat constructor)) ?_
  rintro _ _ ⟨rfl, rfl⟩
  simp only [List.cons_append, List.nil_append]
  refine XL.mv rfl rfl ?_
  refine XL.ex rfl rfl rfl ?_
  refine XL.ex rfl rfl rfl ?_
  refine XL.as rfl rfl ?_
  refine XL.as rfl rfl ?_
  refine XL.nil ?_
  refine XQ.thenN ?_
  refine XC.seq ?_
  refine XC.block ?_
  refine XC.seq ?_
  refine XC.reg ?_
  refine XL.mv rfl rfl ?_
  refine XL.bin rfl rfl rfl (bNeI) ?_
  refine XL.as rfl rfl ?_
  refine XL.nil ?_
  refine XQ.thenN ?_
  refine XC.condF' rfl (rfl) ?_
  refine XC.seq ?_
  refine XC.reg ?_
  refine XL.mv rfl rfl ?_
  refine XL.bin rfl rfl rfl (bLss) ?_
  refine XL.as rfl rfl ?_
  refine XL.nil ?_
  refine XQ.thenN ?_
  refine XC.condF' rfl (decide_eq_false (by omega)) ?_
  refine XC.seq ?_
  refine XC.reg ?_
  refine XL.mv rfl rfl ?_
  refine XL.mv rfl rfl ?_
  refine XL.lenT u_string rfl rfl ?_
  refine XL.bin rfl rfl rfl (bSub (by omega)) ?_
  refine XL.bin rfl rfl rfl (bGtr) ?_
  refine XL.as rfl rfl ?_
  refine XL.nil ?_
  refine XQ.thenN ?_
  refine XC.condF' rfl (decide_eq_false (by omega)) ?_
  refine XC.seq ?_
  refine XC.reg ?_
  refine XL.mv rfl rfl ?_
  refine XL.bin rfl rfl rfl (bEqS) ?_
  refine XL.as rfl rfl ?_
  refine XL.nil ?_
  refine XQ.thenN ?_
  refine XC.condF' rfl (decide_eq_false hd) ?_
  refine XC.skip ?_
  refine XQ.blkN ?_
  refine XQ.thenN ?_
  refine XC.seq ?_
  refine XC.drw (.q 0 <| .q 1 <| .q 2 <| .q 3 <| .q 4 <| .q 5 <| .q 6 <| .q 7 <| .q 8 <| .q 9 <| .q 10 <| .q 11 <| .q 12 <| .q 13 <| .q 14 <| .e 15 <| .done) mixed (by kernel_rfl) rfl ?_
  refine JP.qq rfl rfl rfl (XL.mv rfl rfl XL.qd) ?_
  refine JP.qq rfl rfl rfl (XL.ncP rfl rfl XL.qd) ?_
  refine JP.qq rfl rfl rfl (XL.fa fo_core_Node_1 rfl rfl XL.qd) ?_
  refine JP.qq rfl rfl rfl (XL.ld o_string rfl (by rfl) rfl XL.qd) ?_
  refine JP.qq rfl rfl rfl (XL.mv rfl rfl XL.qd) ?_
  refine JP.qq rfl rfl rfl (XL.ncP rfl rfl XL.qd) ?_
  refine JP.qq rfl rfl rfl (XL.fa fo_core_Node_0 rfl rfl XL.qd) ?_
  refine JP.qq rfl rfl rfl (XL.fa fo_attr_Attr_5 rfl rfl XL.qd) ?_
  refine JP.qq rfl rfl rfl (XL.ld o_int rfl (by rfl) rfl XL.qd) ?_
  refine JP.qq rfl rfl rfl (XL.mv rfl rfl XL.qd) ?_
  refine JP.qq rfl rfl rfl (XL.mv rfl rfl XL.qd) ?_
  refine JP.qq rfl rfl rfl (XL.lenT u_string rfl rfl XL.qd) ?_
  refine JP.qq rfl rfl rfl (XL.bin rfl rfl rfl (bAdd (by omega)) XL.qd) ?_
  refine JP.qq rfl rfl rfl (XL.mx rfl rfl rfl XL.qd) ?_
  refine JP.re 50 (u := I ((max n.data.length (o + d.length) : Nat) : Int)) rfl (congrArg (Value.int .i64) (by rw [hz]; omega)) ?_
  refine JP.qq rfl rfl rfl (XL.call hb_core_cut rfl rfl (core_cut_fn n.data (max n.data.length (o + d.length)) (by omega) (by omega)) (tn) (by rintro _ _ ⟨rfl, rfl⟩; exact XL.qdp (fun w h => h))) ?_
  refine JP.ee rfl ?_
  refine XL.as rfl rfl ?_
  refine XL.ed ?_
  refine JP.done ?_
  refine XQ.thenN ?_
  refine XC.seq ?_
  refine XC.drw (.q 0 <| .q 1 <| .q 2 <| .q 3 <| .q 4 <| .q 5 <| .q 6 <| .q 7 <| .q 8 <| .q 9 <| .q 10 <| .q 11 <| .q 12 <| .e 13 <| .done) mixed (by kernel_rfl) rfl ?_
  refine JP.qq rfl rfl rfl (XL.mv rfl rfl XL.qd) ?_
  refine JP.qq rfl rfl rfl (XL.mv rfl rfl XL.qd) ?_
  refine JP.qq rfl rfl rfl (XL.mv rfl rfl XL.qd) ?_
  refine JP.qq rfl rfl rfl (XL.slT 0 o u_string rfl rfl ⟨_, rfl⟩ (by omega) (by rw [cutL_length]; omega) rfl XL.qd) ?_
  refine JP.qq rfl rfl rfl (XL.mv rfl rfl XL.qd) ?_
  refine JP.qq rfl rfl rfl (XL.bin rfl rfl rfl (bAddS (by simp only [List.length_drop, List.length_take, cutL_length]; omega)) XL.qd) ?_
  refine JP.qq rfl rfl rfl (XL.mv rfl rfl XL.qd) ?_
  refine JP.qq rfl rfl rfl (XL.mv rfl rfl XL.qd) ?_
  refine JP.qq rfl rfl rfl (XL.mv rfl rfl XL.qd) ?_
  refine JP.qq rfl rfl rfl (XL.lenT u_string rfl rfl XL.qd) ?_
  refine JP.qq rfl rfl rfl (XL.bin rfl rfl rfl (bAdd (by omega)) XL.qd) ?_
  refine JP.qq rfl rfl rfl (XL.slT (o + d.length) (cutL n.data (max n.data.length (o + d.length))).length u_string rfl ⟨_, rfl⟩ rfl (by rw [cutL_length]; omega) (Nat.le_refl _) rfl XL.qd) ?_
  refine JP.qq rfl rfl rfl (XL.bin rfl rfl rfl (bAddS (by simp only [List.length_append, List.length_drop, List.length_take, cutL_length]; omega)) XL.qd) ?_
  refine JP.re 64 (u := S (wrL n.data o d)) rfl (by rw [wrL, if_neg hd]; first | rfl | simp) ?_
  refine JP.ee rfl ?_
  refine XL.call hb_core_Node_fill rfl rfl (core_Node_fill_fn b n nilP (wrL n.data o d) (by rw [wrL_length hd]; omega)) (Tk.take (by repeat constructor)) ?_
  rintro _ _ ⟨rfl, rfl⟩
  simp only [List.cons_append, List.nil_append]
  refine XL.ed ?_
  refine JP.done ?_
  refine XQ.thenN ?_
  refine XC.seq ?_
  refine XC.drw (.q 0 <| .q 1 <| .q 2 <| .q 3 <| .q 4 <| .q 5 <| .q 6 <| .q 7 <| .q 8 <| .e 9 <| .r 1 <| .q 10 <| .q 11 <| .q 12 <| .e 13 <| .done) mixed (by kernel_rfl) rfl ?_
  refine JP.qq rfl rfl rfl (XL.mv rfl rfl XL.qd) ?_
  refine JP.qq rfl rfl rfl (XL.mv rfl rfl XL.qd) ?_
  refine JP.qq rfl rfl rfl (XL.ldM g_core_Caller rfl (by rfl) rfl XL.qd) ?_
  refine JP.qq rfl rfl rfl (XL.call hb_core_Caller_time rfl rfl (core_Caller_time_fn _) (tn) (by rintro _ _ ⟨rfl, rfl⟩; exact XL.qdp (fun w h => h))) ?_
  refine JP.qq rfl rfl rfl (XL.ldM g_core_Caller rfl (by rfl) rfl XL.qd) ?_
  refine JP.qq rfl rfl rfl (XL.call hb_core_Caller_time rfl rfl (core_Caller_time_fn _) (tn) (by rintro _ _ ⟨rfl, rfl⟩; exact XL.qdp (fun w h => h))) ?_
  refine JP.qq rfl rfl rfl (XL.ncP rfl rfl XL.qd) ?_
  refine JP.qq rfl rfl rfl (XL.fa fo_core_Node_0 rfl rfl XL.qd) ?_
  refine JP.qq rfl rfl rfl (XL.fa fo_attr_Attr_12 rfl rfl XL.qd) ?_
  refine JP.ee rfl ?_
  refine XL.stM g_attr_Time rfl rfl rfl (by rfl) rfl ?_
  refine XL.edn ?_
  refine JP.rr rfl rfl rfl (XL.mv rfl rfl XL.qd) ?_
  refine JP.qq rfl rfl rfl (XL.ncP rfl rfl XL.qd) ?_
  refine JP.qq rfl rfl rfl (XL.fa fo_core_Node_0 rfl rfl XL.qd) ?_
  refine JP.qq rfl rfl rfl (XL.fa fo_attr_Attr_13 rfl rfl XL.qd) ?_
  refine JP.ee rfl ?_
  refine XL.stM g_attr_Time rfl rfl rfl (by rfl) rfl ?_
  refine XL.edn ?_
  refine JP.done ?_
  refine XQ.thenN ?_
  refine XC.seq ?_
  refine XC.reg ?_
  refine XL.mv rfl rfl ?_
  refine XL.mv rfl rfl ?_
  refine XL.call hb_core_FS_touch rfl rfl (core_FS_touch_fn f vm vt last id []) (Tk.take (by repeat constructor)) ?_
  rintro _ _ ⟨rfl, rfl⟩
  simp only [List.cons_append, List.nil_append]
  refine XL.nil ?_
  refine XQ.thenN ?_
  refine XC.seq ?_
  refine XC.reg ?_
  refine XL.as rfl rfl ?_
  refine XL.nil ?_
  refine XQ.thenN ?_
  refine XC.ret ?_
  exact XQ.ret (.inl rfl) rfl (rC (resT rfl) <| rN) [fsc f vm vt last, mapC vm encKI es, metC vt, ndc b { n.filled (wrL n.data o d) with m0 := now, m1 := 0, c0 := now, c1 := 0 } nilP] (⟨rfl, rfl⟩) ((prm (by repeat constructor)))

theorem core_FS_Write_none_fn (f : Nat) (vm vt : Value) (last : Int) (es : List (Int × Value)) (id : Int) (b : Nat) (hb : getM es id = some (pt b)) (now : Int) (n : Nd) (hk : n.kind = 1) (hz : n.size = (n.data.length : Int)) (o : Nat) (ho : o ≤ 4000) : Does P F_core_FS_Write [pt f, clV now, I id, I (o : Int), S []] [fsc f vm vt last, mapC vm encKI es, metC vt, ndc b n nilP] fun u cs => u = I 0 ∧ cs = [fsc f vm vt last, mapC vm encKI es, metC vt, ndc b n nilP] := by
  refine Does.mk (N := 81) fn_core_FS_Write rfl rfl rfl (fun F => ?_)
  simp only [List.cons_append, List.nil_append]
  refine XC.seq ?_
  refine XC.reg ?_
  refine XL.bx rfl rfl rfl (fun b6 => ?_)
  refine XL.as rfl rfl ?_
  refine XL.nil ?_
  refine XQ.thenN ?_
  refine XC.seq ?_
  refine XC.reg ?_
  refine XL.mv rfl rfl ?_
  refine XL.ldM g_core_Caller rfl (by rfl) rfl ?_
  refine XL.mv rfl rfl ?_
  refine XL.call hb_core_FS_file rfl rfl (core_FS_file_fn f vm vt last es id b hb n nilP hk now 2) (Tk.take (by repeat constructor)) ?_
  rintro _ _ ⟨rfl, rfl⟩
  simp only [List.cons_append, List.nil_append]
  refine XL.mv rfl rfl ?_
  refine XL.ex rfl rfl rfl ?_
  refine XL.ex rfl rfl rfl ?_
  refine XL.as rfl rfl ?_
  refine XL.as rfl rfl ?_
  refine XL.nil ?_
  refine XQ.thenN ?_
  refine XC.seq ?_
  refine XC.block ?_
  refine XC.seq ?_
  refine XC.reg ?_
  refine XL.mv rfl rfl ?_
  refine XL.bin rfl rfl rfl (bNeI) ?_
  refine XL.as rfl rfl ?_
  refine XL.nil ?_
  refine XQ.thenN ?_
  refine XC.condF' rfl (rfl) ?_
  refine XC.seq ?_
  refine XC.reg ?_
  refine XL.mv rfl rfl ?_
  refine XL.bin rfl rfl rfl (bLss) ?_
  refine XL.as rfl rfl ?_
  refine XL.nil ?_
  refine XQ.thenN ?_
  refine XC.condF' rfl (decide_eq_false (by omega)) ?_
  refine XC.seq ?_
  refine XC.reg ?_
  refine XL.mv rfl rfl ?_
  refine XL.mv rfl rfl ?_
  refine XL.lenT u_string rfl rfl ?_
  refine XL.bin rfl rfl rfl (bSub (by simp)) ?_
  refine XL.bin rfl rfl rfl (bGtr) ?_
  refine XL.as rfl rfl ?_
  refine XL.nil ?_
  refine XQ.thenN ?_
  refine XC.condF' rfl (decide_eq_false (by simp; omega)) ?_
  refine XC.seq ?_
  refine XC.reg ?_
  refine XL.mv rfl rfl ?_
  refine XL.bin rfl rfl rfl (bEqS) ?_
  refine XL.as rfl rfl ?_
  refine XL.nil ?_
  refine XQ.thenN ?_
  refine XC.condT' rfl (rfl) ?_
  refine XC.seq ?_
  refine XC.reg ?_
  refine XL.as rfl rfl ?_
  refine XL.nil ?_
  refine XQ.thenN ?_
  refine XC.ret ?_
  refine XQ.blkR ?_
  refine XQ.thenR ?_
  exact XQ.ret (.inl rfl) rfl (rC (resT rfl) <| rN) [fsc f vm vt last, mapC vm encKI es, metC vt, ndc b n nilP] (⟨rfl, rfl⟩) ((prm (by repeat constructor)))

theorem core_FS_Read_fn (f : Nat) (vm vt : Value) (last : Int) (es : List (Int × Value)) (id : Int) (b : Nat) (hb : getM es id = some (pt b)) (now : Int) (n : Nd) (hk : n.kind = 1) (hz : n.size = (n.data.length : Int)) (hl : n.data.length ≤ 9999) : Does P F_core_FS_Read [pt f, clV now, I id, I 0, I 9999] [fsc f vm vt last, mapC vm encKI es, metC vt, ndc b n nilP] fun u cs => u = .tuple #[S n.data, B true, I 0] ∧ cs = [fsc f vm vt last, mapC vm encKI es, metC vt, ndc b n nilP] := by
  refine Does.mk (N := 68) fn_core_FS_Read rfl rfl rfl (fun F => ?_)
  simp only [List.cons_append, List.nil_append]
  refine XC.seq ?_
  refine XC.reg ?_
  refine XL.bx rfl rfl rfl (fun b6 => ?_)
  refine XL.as rfl rfl ?_
  refine XL.as rfl rfl ?_
  refine XL.as rfl rfl ?_
  refine XL.nil ?_
  refine XQ.thenN ?_
  refine XC.seq ?_
  refine XC.reg ?_
  refine XL.mv rfl rfl ?_
  refine XL.ldM g_core_Caller rfl (by rfl) rfl ?_
  refine XL.mv rfl rfl ?_
  refine XL.call hb_core_FS_file rfl rfl (core_FS_file_fn f vm vt last es id b hb n nilP hk now 4) (Tk.take (by repeat constructor)) ?_
  rintro _ _ ⟨rfl, rfl⟩
  simp only [List.cons_append, List.nil_append]
  refine XL.mv rfl rfl ?_
  refine XL.ex rfl rfl rfl ?_
  refine XL.ex rfl rfl rfl ?_
  refine XL.as rfl rfl ?_
  refine XL.as rfl rfl ?_
  refine XL.nil ?_
  refine XQ.thenN ?_
  refine XC.seq ?_
  refine XC.block ?_
  refine XC.seq ?_
  refine XC.reg ?_
  refine XL.mv rfl rfl ?_
  refine XL.bin rfl rfl rfl (bNeI) ?_
  refine XL.as rfl rfl ?_
  refine XL.nil ?_
  refine XQ.thenN ?_
  refine XC.condF' rfl (rfl) ?_
  refine XC.seq ?_
  refine XC.reg ?_
  refine XL.mv rfl rfl ?_
  refine XL.bin rfl rfl rfl (bLss) ?_
  refine XL.mv rfl rfl ?_
  refine XL.re 29 (u := .bool false) rfl (rfl) ?_
  refine XL.mv rfl rfl ?_
  refine XL.bin rfl rfl rfl (bLss) ?_
  refine XL.pkF rfl rfl rfl ?_
  refine XL.as rfl rfl ?_
  refine XL.nil ?_
  refine XQ.thenN ?_
  refine XC.condF' rfl (rfl) ?_
  refine XC.seq ?_
  refine XC.reg ?_
  refine XL.mv rfl rfl ?_
  refine XL.mv rfl rfl ?_
  refine XL.ncP rfl rfl ?_
  refine XL.fa fo_core_Node_0 rfl rfl ?_
  refine XL.fa fo_attr_Attr_5 rfl rfl ?_
  refine XL.ld o_int rfl (by rfl) rfl ?_
  refine XL.bin rfl rfl rfl (bGeq) ?_
  refine XL.as rfl rfl ?_
  refine XL.nil ?_
  refine XQ.thenN ?_
  refine XC.cond rfl (fun hc2 => ?_) (fun hc2 => ?_)
  · refine XC.seq ?_
    refine XC.reg ?_
    refine XL.as rfl rfl ?_
    refine XL.as rfl rfl ?_
    refine XL.as rfl rfl ?_
    refine XL.nil ?_
    refine XQ.thenN ?_
    refine XC.ret ?_
    refine XQ.blkR ?_
    refine XQ.thenR ?_
    exact XQ.ret (.inl rfl) rfl (rC (resT rfl) <| rC (resT rfl) <| rC (resT rfl) <| rN) [fsc f vm vt last, mapC vm encKI es, metC vt, ndc b n nilP] (⟨by have e : n.data = [] := List.eq_nil_of_length_eq_zero (by omega); rw [e]; rfl, rfl⟩) ((prm (by repeat constructor)))
  · refine XC.skip ?_
    refine XQ.blkN ?_
    refine XQ.thenN ?_
    refine XC.seq ?_
    refine XC.reg ?_
    refine XL.mv rfl rfl ?_
    refine XL.mv rfl rfl ?_
    refine XL.ncP rfl rfl ?_
    refine XL.fa fo_core_Node_0 rfl rfl ?_
    refine XL.fa fo_attr_Attr_5 rfl rfl ?_
    refine XL.ld o_int rfl (by rfl) rfl ?_
    refine XL.mv rfl rfl ?_
    refine XL.bin rfl rfl rfl (bSub (by omega)) ?_
    refine XL.mn rfl rfl rfl ?_
    refine XL.re 49 (u := I (n.data.length : Int)) rfl (congrArg (Value.int .i64) (by omega)) ?_
    refine XL.as rfl rfl ?_
    refine XL.nil ?_
    refine XQ.thenN ?_
    refine XC.seq ?_
    refine XC.keep (L' := [(13, pt b), (3, I 0), (4, I (n.data.length : Int))]) ⟨rfl, rfl, rfl, trivial⟩ ?_
    refine XC.drw (.q 0 <| .q 1 <| .q 2 <| .q 3 <| .q 4 <| .q 5 <| .q 6 <| .q 7 <| .q 8 <| .q 9 <| .q 10 <| .q 11 <| .q 12 <| .q 13 <| .q 14 <| .q 15 <| .q 16 <| .q 17 <| .q 18 <| .q 19 <| .e 20 <| .done) mixed (by kernel_rfl) rfl ?_
    refine JP.qq rfl rfl rfl (XL.mv rfl rfl XL.qd) ?_
    refine JP.qq rfl rfl rfl (XL.ncP rfl rfl XL.qd) ?_
    refine JP.qq rfl rfl rfl (XL.fa fo_core_Node_1 rfl rfl XL.qd) ?_
    refine JP.qq rfl rfl rfl (XL.ld o_string rfl (by rfl) rfl XL.qd) ?_
    refine JP.qq rfl rfl rfl (XL.mv rfl rfl XL.qd) ?_
    refine JP.qq rfl rfl rfl (XL.mv rfl rfl XL.qd) ?_
    refine JP.qq rfl rfl rfl (XL.mv rfl rfl XL.qd) ?_
    refine JP.qq rfl rfl rfl (XL.bin rfl rfl rfl (bAdd (by omega)) XL.qd) ?_
    refine JP.re 57 (u := I (n.data.length : Int)) rfl (congrArg (Value.int .i64) (by omega)) ?_
    refine JP.qq rfl rfl rfl (XL.slT 0 n.data.length u_string rfl ⟨_, rfl⟩ ⟨_, rfl⟩ (by omega) (by omega) rfl XL.qd) ?_
    refine JP.qq rfl rfl rfl (XL.mv rfl rfl XL.qd) ?_
    refine JP.qq rfl rfl rfl (XL.mv rfl rfl XL.qd) ?_
    refine JP.qq rfl rfl rfl (XL.bin rfl rfl rfl (bAdd (by omega)) XL.qd) ?_
    refine JP.qq rfl rfl rfl (XL.mv rfl rfl XL.qd) ?_
    refine JP.qq rfl rfl rfl (XL.ncP rfl rfl XL.qd) ?_
    refine JP.qq rfl rfl rfl (XL.fa fo_core_Node_0 rfl rfl XL.qd) ?_
    refine JP.qq rfl rfl rfl (XL.fa fo_attr_Attr_5 rfl rfl XL.qd) ?_
    refine JP.qq rfl rfl rfl (XL.ld o_int rfl (by rfl) rfl XL.qd) ?_
    refine JP.qq rfl rfl rfl (XL.bin rfl rfl rfl (bEqI) XL.qd) ?_
    refine JP.qq rfl rfl rfl (XL.as rfl rfl XL.qd) ?_
    refine JP.qq rfl rfl rfl (XL.as rfl rfl XL.qd) ?_
    refine JP.ee rfl ?_
    refine XL.as rfl rfl ?_
    refine XL.ed ?_
    refine JP.done ?_
    refine XQ.thenN ?_
    refine XC.ret ?_
    exact XQ.ret (.inl rfl) rfl (rC (resT rfl) <| rC (resT rfl) <| rC (resT rfl) <| rN) [fsc f vm vt last, mapC vm encKI es, metC vt, ndc b n nilP] (⟨by simp [hz]; rfl, rfl⟩) ((prm (by repeat constructor)))

theorem file_write (f : Nat) (vm vt : Value) (last : Int) (es : List (Int × Value)) (id : Int) (b : Nat) (hb : getM es id = some (pt b)) (now : Int) (L : List UInt8) (o : Nat) (d : List UInt8) (ho : o ≤ 4000) (hd2 : d.length ≤ 500) (hl : L.length ≤ 8192) :
    Does P F_core_FS_Write [pt f, clV now, I id, I (o : Int), S d] [fileC b L, fsc f vm vt last, mapC vm encKI es, metC vt] fun u cs => u = I 0 ∧ cs = [fileC b (wrL L o d), fsc f vm vt last, mapC vm encKI es, metC vt] := by
  unfold fileC
  refine Does.exi fun n => ?_
  refine Does.pur ?_
  rintro ⟨hk, rfl, hz⟩
  by_cases hd : d = []
  · subst hd
    refine Does.imp (Does.perm3 (core_FS_Write_none_fn f vm vt last es id b hb now n hk hz o ho)) ?_
    rintro u c ⟨rfl, rfl⟩
    exact ⟨_, ⟨rfl, rfl⟩, fun F w h => fileC_shut (L := wrL n.data o []) ⟨hk, by simp [wrL], by simpa [wrL] using hz⟩ (prm (by repeat constructor) _ h)⟩
  · refine Does.imp (Does.perm3 (core_FS_Write_fn f vm vt last es id b hb now n hk hz o d hd ho hd2 hl)) ?_
    rintro u c ⟨rfl, rfl⟩
    exact ⟨_, ⟨rfl, rfl⟩, fun F w h => fileC_shut (n := { n.filled (wrL n.data o d) with m0 := now, m1 := 0, c0 := now, c1 := 0 }) (L := wrL n.data o d) ⟨hk, rfl, rfl⟩ (prm (by repeat constructor) _ h)⟩
theorem file_read (f : Nat) (vm vt : Value) (last : Int) (es : List (Int × Value)) (id : Int) (b : Nat) (hb : getM es id = some (pt b)) (now : Int) (L : List UInt8) (hl : L.length ≤ 9999) :
    Does P F_core_FS_Read [pt f, clV now, I id, I 0, I 9999] [fileC b L, fsc f vm vt last, mapC vm encKI es, metC vt] fun u cs => u = .tuple #[S L, B true, I 0] ∧ cs = [fileC b L, fsc f vm vt last, mapC vm encKI es, metC vt] := by
  unfold fileC
  refine Does.exi fun n => ?_
  refine Does.pur ?_
  rintro ⟨hk, rfl, hz⟩
  refine Does.imp (Does.perm3 (core_FS_Read_fn f vm vt last es id b hb now n hk hz hl)) ?_
  rintro u c ⟨rfl, rfl⟩
  exact ⟨_, ⟨rfl, rfl⟩, fun F w h => fileC_shut (L := n.data) ⟨hk, rfl, hz⟩ (prm (by repeat constructor) _ h)⟩
theorem file_size (f : Nat) (vm vt : Value) (last : Int) (es : List (Int × Value)) (id : Int) (b : Nat) (hb : getM es id = some (pt b)) (now : Int) (L : List UInt8) (z : Nat) (hl : L.length ≤ 9999) (hz2 : z ≤ 8192) :
    Does P F_core_FS_SetAttr [pt f, clV now, I id, seV false true 0 (z : Int), nilS] [fileC b L, fsc f vm vt last, mapC vm encKI es, metC vt] fun u cs => u = I 0 ∧ cs = [fileC b (cutL L z), fsc f vm vt last, mapC vm encKI es, metC vt] := by
  unfold fileC
  refine Does.exi fun n => ?_
  refine Does.pur ?_
  rintro ⟨hk, rfl, hz⟩
  refine Does.imp (Does.perm3 (core_FS_SetAttr_size_fn f vm vt last es id b hb n nilP now 0 z hk (by omega) hz2)) ?_
  rintro u c ⟨rfl, rfl⟩
  refine ⟨_, ⟨rfl, rfl⟩, fun F w h => fileC_shut (n := n.sized now z) (L := cutL n.data z) ?_ (prm (by repeat constructor) _ h)⟩
  unfold Nd.sized
  split
  · rename_i e
    have e2 : z = n.data.length := by omega
    exact ⟨hk, by rw [cutL_le (by omega), e2, List.take_length], by show n.size = _; rw [cutL_length]; omega⟩
  · exact ⟨hk, rfl, rfl⟩
end Go.Proofs.YteeiccjglmehcaaGreat
