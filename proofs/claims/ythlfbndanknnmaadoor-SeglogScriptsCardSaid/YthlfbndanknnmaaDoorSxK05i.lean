/-
  Package seglog: what a log tells. Printed by mk.py out of spec_k05i.py.
-/
import Derived.Test.YthlfbndanknnmaaDoorSxK05h
namespace Go.Proofs.YthlfbndanknnmaaDoor
open Go Go.Sx

structure LogZ where
  v : Value
/-- A log on a disk. -/
def logC (b bd : Nat) (c : Ck) (pl : Nat) (D : DiskS) : Chunk := exi fun z : LogZ => [logB b c z.v bd pl, diskC bd D, c.sl z.v]
/-- A log in order. -/
structure LogOk (c : Ck) (pl : Nat) (D : DiskS) : Prop where
  good : Good D
  pl : pl ≤ 1
  n0 : 0 < c.segs.length
  n64 : c.segs.length ≤ 64
  s : c.serial ≤ 1152921504606846976
  b : c.boot ≤ 1152921504606846976
  q : c.seq ≤ 1152921504606846976
  d : 66 ≤ D.now.length
  x : ∀ x ∈ c.segs, 18 + 16 * x.1 ≤ D.now.length ∧ x.2 ≤ 16
def partsZ (size : Int) : Int := max ((size + 233 - 1) / 233) 1
def fitsM (c : Ck) (size : Int) : Bool := decide (0 ≤ size) && (decide (size ≤ 3728) && decide ((c.lst.2 : Int) + partsZ size ≤ 16))
theorem LogOk.l {c : Ck} {pl : Nat} {D : DiskS} (h : LogOk c pl D) : c.segs[c.segs.length - 1]'(by have := h.n0; omega) = c.lst := lst_at rfl _
theorem LogOk.lx {c : Ck} {pl : Nat} {D : DiskS} (h : LogOk c pl D) : 18 + 16 * c.lst.1 ≤ D.now.length ∧ c.lst.2 ≤ 16 := by
  have h0 := h.n0
  rw [← h.l]; exact h.x _ (List.getElem_mem _)

theorem seglog_Log_Boot_fn (b bd pl : Nat) (c : Ck) (D : DiskS) : Does P F_seglog_Log_Boot [.pointer (some ⟨b, 0, none⟩)] [logC b bd c pl D] fun u cs => u = .int .i64 (c.boot : Int) ∧ cs = [logC b bd c pl D] := by
  refine Does.mk (N := 10) fn_seglog_Log_Boot rfl rfl rfl (fun F => ?_)
  simp only [List.cons_append, List.nil_append]
  refine XC.opn t0 ?_
  rintro ⟨v⟩
  dsimp only [List.cons_append, List.nil_append]
  refine XC.oneV v (fun _ => ?_)
  refine XC.seq ?_
  refine XC.reg ?_
  refine XL.as rfl rfl ?_
  refine XL.nil ?_
  refine XQ.thenN ?_
  refine XC.seq ?_
  refine XC.seq ?_
  refine XC.reg ?_
  refine XL.mv rfl rfl ?_
  refine XL.bin rfl rfl rfl (bEqPF u_P_seglog_Log) ?_
  refine XL.nil ?_
  refine XQ.thenN ?_
  refine XC.condF rfl ?_
  refine XC.skip ?_
  refine XQ.thenN ?_
  refine XC.seq ?_
  refine XC.reg ?_
  refine XL.mv rfl rfl ?_
  refine XL.ncP rfl rfl ?_
  refine XL.fa fo_seglog_Log_0 rfl rfl ?_
  refine XL.fa fo_seglog_checkpoint_1 rfl rfl ?_
  refine XL.ld o_int rfl (by rfl) rfl ?_
  refine XL.as rfl rfl ?_
  refine XL.nil ?_
  refine XQ.thenN ?_
  refine XC.ret ?_
  exact XQ.ret (.inl rfl) rfl (rC (resT rfl) <| rN) [logC b bd c pl D] (⟨rfl, rfl⟩) (fun w h => Sat.shut ⟨v⟩ h)

theorem seglog_Log_Boot_nil_fn : Does P F_seglog_Log_Boot [.pointer none] [] fun u cs => u = .int .i64 0 ∧ cs = [] := by
  refine Does.mk (N := 10) fn_seglog_Log_Boot rfl rfl rfl (fun F => ?_)
  simp only [List.cons_append, List.nil_append]
  refine XC.seq ?_
  refine XC.reg ?_
  refine XL.as rfl rfl ?_
  refine XL.nil ?_
  refine XQ.thenN ?_
  refine XC.seq ?_
  refine XC.seq ?_
  refine XC.reg ?_
  refine XL.mv rfl rfl ?_
  refine XL.bin rfl rfl rfl (bEqPT u_P_seglog_Log) ?_
  refine XL.nil ?_
  refine XQ.thenN ?_
  refine XC.condT rfl ?_
  refine XC.seq ?_
  refine XC.reg ?_
  refine XL.as rfl rfl ?_
  refine XL.nil ?_
  refine XQ.thenN ?_
  refine XC.ret ?_
  refine XQ.thenR ?_
  exact XQ.ret (.inl rfl) rfl (rC (resT rfl) <| rN) [] (⟨rfl, rfl⟩) (fun w h => h)

theorem seglog_Log_Free_nil_fn : Does P F_seglog_Log_Free [.pointer none] [] fun u cs => u = .int .i64 0 ∧ cs = [] := by
  refine Does.mk (N := 17) fn_seglog_Log_Free rfl rfl rfl (fun F => ?_)
  simp only [List.cons_append, List.nil_append]
  refine XC.seq ?_
  refine XC.reg ?_
  refine XL.as rfl rfl ?_
  refine XL.nil ?_
  refine XQ.thenN ?_
  refine XC.seq ?_
  refine XC.seq ?_
  refine XC.reg ?_
  refine XL.mv rfl rfl ?_
  refine XL.bin rfl rfl rfl (bEqPT u_P_seglog_Log) ?_
  refine XL.nil ?_
  refine XQ.thenN ?_
  refine XC.condT rfl ?_
  refine XC.seq ?_
  refine XC.reg ?_
  refine XL.as rfl rfl ?_
  refine XL.nil ?_
  refine XQ.thenN ?_
  refine XC.ret ?_
  refine XQ.thenR ?_
  exact XQ.ret (.inl rfl) rfl (rC (resT rfl) <| rN) [] (⟨rfl, rfl⟩) (fun w h => h)

theorem seglog_Log_Segments_nil_fn : Does P F_seglog_Log_Segments [.pointer none] [] fun u cs => u = .slice none 0 0 ∧ cs = [] := by
  refine Does.mk (N := 11) fn_seglog_Log_Segments rfl rfl rfl (fun F => ?_)
  simp only [List.cons_append, List.nil_append]
  refine XC.seq ?_
  refine XC.reg ?_
  refine XL.as rfl rfl ?_
  refine XL.nil ?_
  refine XQ.thenN ?_
  refine XC.seq ?_
  refine XC.seq ?_
  refine XC.reg ?_
  refine XL.mv rfl rfl ?_
  refine XL.bin rfl rfl rfl (bEqPT u_P_seglog_Log) ?_
  refine XL.nil ?_
  refine XQ.thenN ?_
  refine XC.condT rfl ?_
  refine XC.seq ?_
  refine XC.reg ?_
  refine XL.as rfl rfl ?_
  refine XL.nil ?_
  refine XQ.thenN ?_
  refine XC.ret ?_
  refine XQ.thenR ?_
  exact XQ.ret (.inl rfl) rfl (rC (resT rfl) <| rN) [] (⟨rfl, rfl⟩) (fun w h => h)

theorem seglog_Log_Drop_nil_fn (n : Int) : Does P F_seglog_Log_Drop [.pointer none, .int .i64 n] [] fun u cs => u = .int .i64 1 ∧ cs = [] := by
  refine Does.mk (N := 42) fn_seglog_Log_Drop rfl rfl rfl (fun F => ?_)
  simp only [List.cons_append, List.nil_append]
  refine XC.seq ?_
  refine XC.reg ?_
  refine XL.bx rfl rfl rfl (fun b3 => ?_)
  refine XL.as rfl rfl ?_
  refine XL.nil ?_
  refine XQ.thenN ?_
  refine XC.seq ?_
  refine XC.seq ?_
  refine XC.reg ?_
  refine XL.mv rfl rfl ?_
  refine XL.bin rfl rfl rfl (bEqPT u_P_seglog_Log) ?_
  refine XL.nil ?_
  refine XQ.thenN ?_
  refine XC.condT rfl ?_
  refine XC.seq ?_
  refine XC.reg ?_
  refine XL.as rfl rfl ?_
  refine XL.nil ?_
  refine XQ.thenN ?_
  refine XC.ret ?_
  refine XQ.thenR ?_
  exact XQ.ret (.inl rfl) rfl (rC (resT rfl) <| rN) [] (⟨rfl, rfl⟩) (fun w h => Sat.tail h)

theorem seglog_Log_Append_nil_fn (s : List UInt8) : Does P F_seglog_Log_Append [.pointer none, S s] [] fun u cs => u = .tuple #[.agg #[.int .i64 0, .int .i64 0, S []], .int .i64 1] ∧ cs = [] := by
  refine Does.mk (N := 152) fn_seglog_Log_Append rfl rfl rfl (fun F => ?_)
  simp only [List.cons_append, List.nil_append]
  refine XC.seq ?_
  refine XC.reg ?_
  refine XL.al z_seglog_Record rfl (fun b4 => ?_)
  refine XL.as rfl rfl ?_
  refine XL.nil ?_
  refine XQ.thenN ?_
  refine XC.seq ?_
  refine XC.block ?_
  refine XC.seq ?_
  refine XC.reg ?_
  refine XL.mv rfl rfl ?_
  refine XL.bin rfl rfl rfl (bEqPT u_P_seglog_Log) ?_
  refine XL.as rfl rfl ?_
  refine XL.nil ?_
  refine XQ.thenN ?_
  refine XC.condT rfl ?_
  refine XC.seq ?_
  refine XC.reg ?_
  refine XL.bd z_seglog_Record p_seglog_Record rfl rfl ?_
  refine XL.stM g_seglog_Record rfl rfl rfl (by rfl) rfl ?_
  refine XL.as rfl rfl ?_
  refine XL.nil ?_
  refine XQ.thenN ?_
  refine XC.ret ?_
  refine XQ.blkR ?_
  refine XQ.thenR ?_
  exact XQ.ret (.inl rfl) rfl (rC (resN g_seglog_Record rfl rfl rfl) <| rC (resT rfl) <| rN) [] (⟨rfl, rfl⟩) (fun w h => Sat.tail h)

theorem seglog_parts_fn (size : Int) (h0 : 0 ≤ size) (h1 : size ≤ 1000000000000000000) : Does P F_seglog_parts [.int .i64 size] [] fun u cs => u = .int .i64 (partsZ size) ∧ cs = [] := by
  refine Does.mk (N := 8) fn_seglog_parts rfl rfl rfl (fun F => ?_)
  simp only [List.cons_append, List.nil_append]
  refine XC.seq ?_
  refine XC.reg ?_
  refine XL.as rfl rfl ?_
  refine XL.nil ?_
  refine XQ.thenN ?_
  refine XC.seq ?_
  refine XC.reg ?_
  refine XL.mv rfl rfl ?_
  refine XL.bin rfl rfl rfl (bAdd (by omega)) ?_
  refine XL.bin rfl rfl rfl (bSub (by omega)) ?_
  refine XL.bin rfl rfl rfl (bQuo (by omega)) ?_
  refine XL.mx rfl rfl rfl ?_
  refine XL.as rfl rfl ?_
  refine XL.nil ?_
  refine XQ.thenN ?_
  refine XC.ret ?_
  exact XQ.ret (.inl rfl) rfl (rC (resT rfl) <| rN) [] (⟨rfl, rfl⟩) (fun w h => h)

theorem seglog_Log_Fits_nil_fn (size : Int) : Does P F_seglog_Log_Fits [.pointer none, .int .i64 size] [] fun u cs => u = .bool false ∧ cs = [] := by
  refine Does.mk (N := 29) fn_seglog_Log_Fits rfl rfl rfl (fun F => ?_)
  simp only [List.cons_append, List.nil_append]
  refine XC.seq ?_
  refine XC.reg ?_
  refine XL.as rfl rfl ?_
  refine XL.nil ?_
  refine XQ.thenN ?_
  refine XC.seq ?_
  refine XC.drw (.q 0 <| .q 1 <| .q 2 <| .q 3 <| .q 4 <| .q 5 <| .q 6 <| .q 7 <| .q 8 <| .q 9 <| .q 10 <| .q 11 <| .q 12 <| .q 13 <| .q 14 <| .q 15 <| .q 16 <| .q 17 <| .q 18 <| .q 19 <| .q 20 <| .q 21 <| .q 22 <| .q 23 <| .e 24 <| .done) mixed (by kernel_rfl) rfl ?_
  refine JP.qq rfl rfl rfl (XL.mv rfl rfl XL.qd) ?_
  refine JP.qq rfl rfl rfl (XL.bin rfl rfl rfl (bNePT u_P_seglog_Log) XL.qd) ?_
  refine JP.qq rfl rfl rfl (XL.mv rfl rfl XL.qd) ?_
  refine JP.re 7 (u := .bool false) rfl (rfl) ?_
  refine JP.qq rfl rfl rfl (XL.no rfl rfl XL.qd) ?_
  refine JP.qq rfl rfl rfl (XL.no rfl rfl XL.qd) ?_
  refine JP.qq rfl rfl rfl (XL.pkF rfl rfl rfl XL.qd) ?_
  refine JP.qq rfl rfl rfl (XL.mv rfl rfl XL.qd) ?_
  refine JP.qq rfl rfl rfl (XL.no rfl rfl XL.qd) ?_
  refine JP.qq rfl rfl rfl (XL.no rfl rfl XL.qd) ?_
  refine JP.qq rfl rfl rfl (XL.pkF rfl rfl rfl XL.qd) ?_
  refine JP.qq rfl rfl rfl (XL.mv rfl rfl XL.qd) ?_
  refine JP.qq rfl rfl rfl (XL.no rfl rfl XL.qd) ?_
  refine JP.qq rfl rfl rfl (XL.no rfl rfl XL.qd) ?_
  refine JP.qq rfl rfl rfl (XL.no rfl rfl XL.qd) ?_
  refine JP.qq rfl rfl rfl (XL.no rfl rfl XL.qd) ?_
  refine JP.qq rfl rfl rfl (XL.no rfl rfl XL.qd) ?_
  refine JP.qq rfl rfl rfl (XL.no rfl rfl XL.qd) ?_
  refine JP.qq rfl rfl rfl (XL.no rfl rfl XL.qd) ?_
  refine JP.qq rfl rfl rfl (XL.no rfl rfl XL.qd) ?_
  refine JP.qq rfl rfl rfl (XL.no rfl rfl XL.qd) ?_
  refine JP.qq rfl rfl rfl (XL.no rfl rfl XL.qd) ?_
  refine JP.qq rfl rfl rfl (XL.no rfl rfl XL.qd) ?_
  refine JP.qq rfl rfl rfl (XL.no rfl rfl XL.qd) ?_
  refine JP.qq rfl rfl rfl (XL.pkF rfl rfl rfl XL.qd) ?_
  refine JP.ee rfl ?_
  refine XL.as rfl rfl ?_
  refine XL.ed ?_
  refine JP.done ?_
  refine XQ.thenN ?_
  refine XC.ret ?_
  exact XQ.ret (.inl rfl) rfl (rC (resT rfl) <| rN) [] (⟨rfl, rfl⟩) (fun w h => h)

theorem seglog_Log_Segments_fn (b bd pl : Nat) (c : Ck) (D : DiskS) (h : LogOk c pl D) : Does P F_seglog_Log_Segments [.pointer (some ⟨b, 0, none⟩)] [logC b bd c pl D] fun u cs => cs = [logC b bd c pl D, segS u c.segs] := by
  refine Does.mk (N := 11) fn_seglog_Log_Segments rfl rfl rfl (fun F => ?_)
  simp only [List.cons_append, List.nil_append]
  refine XC.opn t0 ?_
  rintro ⟨v⟩
  dsimp only [List.cons_append, List.nil_append]
  refine XC.oneV v (fun _ => ?_)
  refine XC.seq ?_
  refine XC.reg ?_
  refine XL.as rfl rfl ?_
  refine XL.nil ?_
  refine XQ.thenN ?_
  refine XC.seq ?_
  refine XC.seq ?_
  refine XC.reg ?_
  refine XL.mv rfl rfl ?_
  refine XL.bin rfl rfl rfl (bEqPF u_P_seglog_Log) ?_
  refine XL.nil ?_
  refine XQ.thenN ?_
  refine XC.condF rfl ?_
  refine XC.skip ?_
  refine XQ.thenN ?_
  refine XC.seq ?_
  refine XC.reg ?_
  refine XL.mv rfl rfl ?_
  refine XL.ncP rfl rfl ?_
  refine XL.fa fo_seglog_Log_0 rfl rfl ?_
  refine XL.fa fo_seglog_checkpoint_3 rfl rfl ?_
  refine XL.ld o_L_seglog_Segment rfl (by rfl) rfl ?_
  refine XL.call hb_slices_Clone_L_seglog_Segment_seglog_Segment rfl rfl (slices_Clone_L_seglog_Segment_seglog_Segment_fn v c.segs h.n0 (by have := h.n64; omega)) (t2.c tn) ?_
  rintro u _ rfl
  simp only [List.cons_append, List.nil_append]
  refine XL.as rfl rfl ?_
  refine XL.nil ?_
  refine XQ.thenN ?_
  refine XC.ret ?_
  exact XQ.ret (.inl rfl) rfl (rC (resT rfl) <| rN) [logC b bd c pl D, segS u c.segs] (rfl) (fun w hs => Sat.shut ⟨v⟩ (Take.sat (t2.c <| t2.c <| t1.c <| t0.c tall) hs))

theorem seglog_Log_Free_fn (b bd pl : Nat) (c : Ck) (D : DiskS) (h : LogOk c pl D) (hseg : c.segs.length ≤ segsN D.now.length) : Does P F_seglog_Log_Free [.pointer (some ⟨b, 0, none⟩)] [logC b bd c pl D] fun u cs => u = .int .i64 ((segsN D.now.length - c.segs.length : Nat) : Int) ∧ cs = [logC b bd c pl D] := by
  refine Does.mk (N := 17) fn_seglog_Log_Free rfl rfl rfl (fun F => ?_)
  simp only [List.cons_append, List.nil_append]
  refine XC.opn t0 ?_
  rintro ⟨v⟩
  dsimp only [List.cons_append, List.nil_append]
  refine XC.oneV v (fun _ => ?_)
  have hN : segsN D.now.length ≤ 64 := by unfold segsN; omega
  refine XC.seq ?_
  refine XC.reg ?_
  refine XL.as rfl rfl ?_
  refine XL.nil ?_
  refine XQ.thenN ?_
  refine XC.seq ?_
  refine XC.seq ?_
  refine XC.reg ?_
  refine XL.mv rfl rfl ?_
  refine XL.bin rfl rfl rfl (bEqPF u_P_seglog_Log) ?_
  refine XL.nil ?_
  refine XQ.thenN ?_
  refine XC.condF rfl ?_
  refine XC.skip ?_
  refine XQ.thenN ?_
  refine XC.seq ?_
  refine XC.drw (.q 0 <| .q 1 <| .q 2 <| .q 3 <| .q 4 <| .q 5 <| .q 6 <| .q 7 <| .q 8 <| .q 9 <| .q 10 <| .q 11 <| .e 12 <| .done) mixed (by kernel_rfl) rfl ?_
  refine JP.qq rfl rfl rfl (XL.mv rfl rfl XL.qd) ?_
  refine JP.qq rfl rfl rfl (XL.ncP rfl rfl XL.qd) ?_
  refine JP.qq rfl rfl rfl (XL.fa fo_seglog_Log_1 rfl rfl XL.qd) ?_
  refine JP.qq rfl rfl rfl (XL.ld o_P_sector_Disk rfl (by rfl) rfl XL.qd) ?_
  refine JP.qq rfl rfl rfl (XL.call hb_seglog_segments rfl rfl (seglog_segments_fn bd D h.good.wf.most) (t1.c tn) (by rintro _ _ ⟨rfl, rfl⟩; exact XL.qdp (fun w h => Take.sat (t1.c <| t0.c tall) h))) ?_
  refine JP.qq rfl rfl rfl (XL.mv rfl rfl XL.qd) ?_
  refine JP.qq rfl rfl rfl (XL.ncP rfl rfl XL.qd) ?_
  refine JP.qq rfl rfl rfl (XL.fa fo_seglog_Log_0 rfl rfl XL.qd) ?_
  refine JP.qq rfl rfl rfl (XL.fa fo_seglog_checkpoint_3 rfl rfl XL.qd) ?_
  refine JP.qq rfl rfl rfl (XL.ld o_L_seglog_Segment rfl (by rfl) rfl XL.qd) ?_
  refine JP.qq rfl rfl rfl (XL.lenS e_L_seglog_Segment rfl rfl XL.qd) ?_
  refine JP.qq rfl rfl rfl (XL.bin rfl rfl rfl (bSub (by omega)) (XL.re 16 (u := .int .i64 ((segsN D.now.length - c.segs.length : Nat) : Int)) rfl (congrArg (Value.int .i64) (by omega)) XL.qd)) ?_
  refine JP.ee rfl ?_
  refine XL.as rfl rfl ?_
  refine XL.ed ?_
  refine JP.done ?_
  refine XQ.thenN ?_
  refine XC.ret ?_
  exact XQ.ret (.inl rfl) rfl (rC (resT rfl) <| rN) [logC b bd c pl D] (⟨rfl, rfl⟩) (fun w h => Sat.shut ⟨v⟩ h)

theorem seglog_Log_Fits_fn (b bd pl : Nat) (c : Ck) (D : DiskS) (size : Int) (h : LogOk c pl D) : Does P F_seglog_Log_Fits [.pointer (some ⟨b, 0, none⟩), .int .i64 size] [logC b bd c pl D] fun u cs => u = .bool (fitsM c size) ∧ cs = [logC b bd c pl D] := by
  refine Does.mk (N := 29) fn_seglog_Log_Fits rfl rfl rfl (fun F => ?_)
  simp only [List.cons_append, List.nil_append]
  refine XC.opn t0 ?_
  rintro ⟨v⟩
  dsimp only [List.cons_append, List.nil_append]
  refine XC.oneV v (fun _ => ?_)
  refine XC.isAt v 0 h.n0 (fun bs _ => ?_)
  have hj : c.segs.length - 1 < c.segs.length := (by have := h.n0; omega)
  have hla := h.l
  have hlx := h.lx.2
  refine XC.seq ?_
  refine XC.reg ?_
  refine XL.as rfl rfl ?_
  refine XL.nil ?_
  refine XQ.thenN ?_
  refine XC.seq ?_
  refine XC.drw (.q 0 <| .q 1 <| .q 2 <| .q 3 <| .q 4 <| .q 5 <| .q 6 <| .q 7 <| .q 8 <| .q 9 <| .q 10 <| .q 11 <| .q 12 <| .q 13 <| .q 14 <| .q 15 <| .q 16 <| .q 17 <| .q 18 <| .q 19 <| .q 20 <| .q 21 <| .q 22 <| .q 23 <| .e 24 <| .done) mixed (by kernel_rfl) rfl ?_
  refine JP.qq rfl rfl rfl (XL.mv rfl rfl XL.qd) ?_
  refine JP.qq rfl rfl rfl (XL.bin rfl rfl rfl (bNePF u_P_seglog_Log) XL.qd) ?_
  refine JP.qq rfl rfl rfl (XL.mv rfl rfl XL.qd) ?_
  refine JP.re 7 (u := .bool true) rfl (rfl) ?_
  refine JP.qq rfl rfl rfl (XL.mv rfl rfl XL.qd) ?_
  refine JP.qq rfl rfl rfl (XL.bin rfl rfl rfl (bGeq) XL.qd) ?_
  refine JP.qq rfl rfl rfl (XL.pkT rfl rfl rfl XL.qd) ?_
  refine JP.qq rfl rfl rfl (XL.mv rfl rfl XL.qd) ?_
  refine JP.split 11 rfl (fun hg11 => ?_) (fun hg11 => ?_)
  · refine JP.qq rfl rfl rfl (XL.mv rfl rfl XL.qd) ?_
    refine JP.qq rfl rfl rfl (XL.bin rfl rfl rfl (bLeq) XL.qd) ?_
    refine JP.qq rfl rfl rfl (XL.pkT rfl rfl rfl XL.qd) ?_
    refine JP.qq rfl rfl rfl (XL.mv rfl rfl XL.qd) ?_
    refine JP.split 15 rfl (fun hg15 => ?_) (fun hg15 => ?_)
    · have hpz : partsZ size = max ((size + 233 - 1) / 233) 1 := rfl
      refine JP.qq rfl rfl rfl (XL.mv rfl rfl XL.qd) ?_
      refine JP.qq rfl rfl rfl (XL.ncP rfl rfl XL.qd) ?_
      refine JP.qq rfl rfl rfl (XL.fa fo_seglog_Log_0 rfl rfl XL.qd) ?_
      refine JP.qq rfl rfl rfl (XL.ldM g_seglog_checkpoint rfl (by rfl) rfl XL.qd) ?_
      refine JP.qq rfl rfl rfl (XL.call hb_seglog_checkpoint_last rfl rfl (seglog_checkpoint_last_fn c v bs h.n0 h.n64) (t2.c tn) (by rintro _ _ ⟨rfl, rfl⟩; exact XL.qdp (fun w h => Take.sat (t1.c <| t1.c <| t0.c tall) h))) ?_
      refine JP.qq rfl rfl rfl (XL.ncP rfl rfl XL.qd) ?_
      refine JP.qq rfl rfl rfl (XL.fa fo_seglog_Segment_1 rfl rfl XL.qd) ?_
      refine JP.qq rfl rfl rfl (XL.ldSf (o := 1) o_int rfl hj (by rw [hla]; rfl) rfl XL.qd) ?_
      refine JP.qq rfl rfl rfl (XL.mv rfl rfl XL.qd) ?_
      refine JP.qq rfl rfl rfl (XL.call hb_seglog_parts rfl rfl (seglog_parts_fn size (by omega) (by omega)) (tn) (by rintro _ _ ⟨rfl, rfl⟩; exact XL.qdp (fun w h => h))) ?_
      refine JP.qq rfl rfl rfl (XL.bin rfl rfl rfl (bAdd (by omega)) XL.qd) ?_
      refine JP.qq rfl rfl rfl (XL.bin rfl rfl rfl (bLeq) XL.qd) ?_
      refine JP.qq rfl rfl rfl (XL.pkT rfl rfl rfl XL.qd) ?_
      refine JP.ee rfl ?_
      refine XL.as rfl rfl ?_
      refine XL.ed ?_
      refine JP.done ?_
      refine XQ.thenN ?_
      refine XC.ret ?_
      exact XQ.ret (.inl rfl) rfl (rC (resT rfl) <| rN) [logC b bd c pl D] (⟨by unfold fitsM; simp [tupleOf, *], rfl⟩) (fun w h => Sat.shut ⟨v⟩ h)
    · refine JP.qq rfl rfl rfl (XL.no rfl rfl XL.qd) ?_
      refine JP.qq rfl rfl rfl (XL.no rfl rfl XL.qd) ?_
      refine JP.qq rfl rfl rfl (XL.no rfl rfl XL.qd) ?_
      refine JP.qq rfl rfl rfl (XL.no rfl rfl XL.qd) ?_
      refine JP.qq rfl rfl rfl (XL.no rfl rfl XL.qd) ?_
      refine JP.qq rfl rfl rfl (XL.no rfl rfl XL.qd) ?_
      refine JP.qq rfl rfl rfl (XL.no rfl rfl XL.qd) ?_
      refine JP.qq rfl rfl rfl (XL.no rfl rfl XL.qd) ?_
      refine JP.qq rfl rfl rfl (XL.no rfl rfl XL.qd) ?_
      refine JP.qq rfl rfl rfl (XL.no rfl rfl XL.qd) ?_
      refine JP.qq rfl rfl rfl (XL.no rfl rfl XL.qd) ?_
      refine JP.qq rfl rfl rfl (XL.no rfl rfl XL.qd) ?_
      refine JP.qq rfl rfl rfl (XL.pkF rfl rfl rfl XL.qd) ?_
      refine JP.ee rfl ?_
      refine XL.as rfl rfl ?_
      refine XL.ed ?_
      refine JP.done ?_
      refine XQ.thenN ?_
      refine XC.ret ?_
      exact XQ.ret (.inl rfl) rfl (rC (resT rfl) <| rN) [logC b bd c pl D] (⟨by unfold fitsM; simp [tupleOf, *], rfl⟩) (fun w h => Sat.shut ⟨v⟩ h)
  · refine JP.qq rfl rfl rfl (XL.no rfl rfl XL.qd) ?_
    refine JP.qq rfl rfl rfl (XL.no rfl rfl XL.qd) ?_
    refine JP.qq rfl rfl rfl (XL.pkF rfl rfl rfl XL.qd) ?_
    refine JP.qq rfl rfl rfl (XL.mv rfl rfl XL.qd) ?_
    refine JP.qq rfl rfl rfl (XL.no rfl rfl XL.qd) ?_
    refine JP.qq rfl rfl rfl (XL.no rfl rfl XL.qd) ?_
    refine JP.qq rfl rfl rfl (XL.no rfl rfl XL.qd) ?_
    refine JP.qq rfl rfl rfl (XL.no rfl rfl XL.qd) ?_
    refine JP.qq rfl rfl rfl (XL.no rfl rfl XL.qd) ?_
    refine JP.qq rfl rfl rfl (XL.no rfl rfl XL.qd) ?_
    refine JP.qq rfl rfl rfl (XL.no rfl rfl XL.qd) ?_
    refine JP.qq rfl rfl rfl (XL.no rfl rfl XL.qd) ?_
    refine JP.qq rfl rfl rfl (XL.no rfl rfl XL.qd) ?_
    refine JP.qq rfl rfl rfl (XL.no rfl rfl XL.qd) ?_
    refine JP.qq rfl rfl rfl (XL.no rfl rfl XL.qd) ?_
    refine JP.qq rfl rfl rfl (XL.no rfl rfl XL.qd) ?_
    refine JP.qq rfl rfl rfl (XL.pkF rfl rfl rfl XL.qd) ?_
    refine JP.ee rfl ?_
    refine XL.as rfl rfl ?_
    refine XL.ed ?_
    refine JP.done ?_
    refine XQ.thenN ?_
    refine XC.ret ?_
    exact XQ.ret (.inl rfl) rfl (rC (resT rfl) <| rN) [logC b bd c pl D] (⟨by unfold fitsM; simp [tupleOf, *], rfl⟩) (fun w h => Sat.shut ⟨v⟩ h)
end Go.Proofs.YthlfbndanknnmaaDoor
