/-
  The statements of package seglog: what all of them begin with; no log. Printed by mk.py out of spec_k05p.py.
-/
import Derived.Test.YthlfbndanknnmaaDoorSxK05o
import Derived.Test.YthlfbndanknnmaaDoorSx12
namespace Go.Proofs.YthlfbndanknnmaaDoor
open Go Go.Sx

/-! ### Contracts in the words of logs in order -/
theorem openT_fn (bd : Nat) (D : DiskS) (S : LogS) (out : List RecS) (hD : Good D) (h66 : 66 ≤ D.now.length) (hq : D.queue.length ≤ 100) (he : openL D = (0, some (S, out))) :
    Does P F_seglog_Open [.pointer (some ⟨bd, 0, none⟩)] [diskC bd D] fun u cs => ∃ b vo, u = .tuple #[.pointer (some ⟨b, 0, none⟩), vo, .int .i64 0] ∧ cs = [S.C b bd, recS vo out] := by
  have := seglog_Open_fn bd D hD h66 hq
  rw [he] at this
  exact this
theorem appT_fn (b bd : Nat) (G : LogS) (s : List UInt8) (h : LogIn G) (hs : s.length ≤ 1000000000000000) :
    Does P F_seglog_Log_Append [.pointer (some ⟨b, 0, none⟩), S s] [G.C b bd] fun u cs => u = .tuple #[.agg (encR (appendM G s).1).toArray, .int .i64 (appendM G s).2.1] ∧ cs = [(appendM G s).2.2.C b bd] :=
  seglog_Log_Append_fn b bd G s h.ok (by rw [h.q]; simp) hs h.room
theorem crashT_fn (bd : Nat) (D : DiskS) (k : Int) (h : Good D) : Does P F_sector_Disk_Crash [.pointer (some ⟨bd, 0, none⟩), .int .i64 k] [diskC bd D] fun v cs => v = .tuple #[] ∧ cs = [diskC bd (D.crash k)] :=
  sector_Disk_Crash_fn bd D k h.wf.q h.wf.len (by have := h.ql; omega)
/-! ### Two records, and the power goes off -/
def getS : Int × Option (LogS × List RecS) → LogS | (_, some (S, _)) => S | _ => ⟨ckE, 0, DiskS.new 0⟩
def spD1 : DiskS := formatM (DiskS.new 66)
def spS1 : LogS := getS (openL spD1)
theorem sp1 : openL spD1 = (0, some (spS1, [])) := by kernel_rfl
def spS2 : LogS := (appendM spS1 [97]).2.2
def spS3 : LogS := (appendM spS2 [98]).2.2
def spD4 : DiskS := spS3.D.crash 0
def spS4 : LogS := getS (openL spD4)
theorem sp4 : openL spD4 = (0, some (spS4, [⟨0, 0, [97]⟩, ⟨1, 0, [98]⟩])) := by kernel_rfl
theorem sp5 : spS4.c.boot = 2 := by kernel_rfl
theorem spG1 : Good spD1 ∧ spD1.now.length = 66 ∧ spD1.queue = [] := by
  obtain ⟨h1, h2, h3⟩ := format_good (good_new (n := 66) (by omega)) (by simp [DiskS.new]) (by simp [DiskS.new])
  exact ⟨h1, h2.trans (by simp [DiskS.new]), h3⟩
theorem spI1 : LogIn spS1 ∧ spS1.D.now.length = 66 := by
  obtain ⟨h1, h2⟩ := openL_in spG1.1 (by rw [spG1.2.2]; simp) (by rw [spG1.2.1]; omega) sp1
  exact ⟨h1, h2.trans spG1.2.1⟩
theorem spI2 : LogIn spS2 ∧ spS2.D.now.length = 66 := ⟨(appendM_in spI1.1 _).1, (appendM_in spI1.1 _).2.trans spI1.2⟩
theorem spI3 : LogIn spS3 ∧ spS3.D.now.length = 66 := ⟨(appendM_in spI2.1 _).1, (appendM_in spI2.1 _).2.trans spI2.2⟩
theorem spG4 : Good spD4 ∧ spD4.now.length = 66 ∧ spD4.queue = [] := by
  refine ⟨crash_good spI3.1.ok.good spI3.1.q spI3.1.fl 0, ?_, ?_⟩
  · unfold spD4; rw [crash_eq spI3.1.q spI3.1.fl]; exact spI3.2
  · unfold spD4; rw [crash_eq spI3.1.q spI3.1.fl]

theorem coraclelaw05_speaks_fn : Does P F_coraclelaw05_speaks [] [] fun v cs => v = .bool true ∧ cs = [] := by
  refine Does.mk (N := 61) fn_coraclelaw05_speaks rfl rfl rfl (fun F => ?_)
  simp only [List.cons_append, List.nil_append]
  refine XC.seq ?_
  refine XC.reg ?_
  refine XL.as rfl rfl ?_
  refine XL.nil ?_
  refine XQ.thenN ?_
  refine XC.seq ?_
  refine XC.reg ?_
  refine XL.call hb_sector_New rfl rfl (sector_New_fn 66 (by omega) (by omega)) tn ?_
  rintro _ _ ⟨bd, rfl, rfl⟩
  simp only [List.cons_append, List.nil_append]
  refine XL.mv rfl rfl ?_
  refine XL.ex rfl rfl rfl ?_
  refine XL.ex rfl rfl rfl ?_
  refine XL.as rfl rfl ?_
  refine XL.as rfl rfl ?_
  refine XL.nil ?_
  refine XQ.thenN ?_
  refine XC.seq ?_
  refine XC.seq ?_
  refine XC.reg ?_
  refine XL.mv rfl rfl ?_
  refine XL.bin rfl rfl rfl (bNeI) ?_
  refine XL.mv rfl rfl ?_
  refine XL.re 12 (u := .bool false) rfl (congrArg Value.bool (decide_eq_false (by omega))) ?_
  refine XL.mv rfl rfl ?_
  refine XL.call hb_seglog_Format rfl rfl (seglog_Format_fn bd (DiskS.new 66) (good_new (by omega)) (by simp [DiskS.new]) (by simp [DiskS.new])) (t0.c tn) ?_
  rintro _ _ ⟨rfl, rfl⟩
  simp only [List.cons_append, List.nil_append]
  refine XL.bin rfl rfl rfl (bNeI) ?_
  refine XL.pkF rfl rfl rfl ?_
  refine XL.nil ?_
  refine XQ.thenN ?_
  refine XC.condF' rfl (decide_eq_false (by omega)) ?_
  refine XC.skip ?_
  refine XQ.thenN ?_
  refine XC.seq ?_
  refine XC.reg ?_
  refine XL.mv rfl rfl ?_
  refine XL.call hb_seglog_Open rfl rfl (openT_fn bd spD1 spS1 [] spG1.1 (by rw [spG1.2.1]; omega) (by rw [spG1.2.2]; simp) sp1) (t0.c tn) ?_
  rintro _ _ ⟨b1, vo1, rfl, rfl⟩
  simp only [List.cons_append, List.nil_append]
  refine XL.mv rfl rfl ?_
  refine XL.ex rfl rfl rfl ?_
  refine XL.ex rfl rfl rfl ?_
  refine XL.ex rfl rfl rfl ?_
  refine XL.as rfl rfl ?_
  refine XL.as rfl rfl ?_
  refine XL.as rfl rfl ?_
  refine XL.nil ?_
  refine XQ.thenN ?_
  refine XC.seq ?_
  refine XC.seq ?_
  refine XC.reg ?_
  refine XL.mv rfl rfl ?_
  refine XL.bin rfl rfl rfl (bNeI) ?_
  refine XL.mv rfl rfl ?_
  refine XL.re 25 (u := .bool false) rfl (congrArg Value.bool (decide_eq_false (by omega))) ?_
  refine XL.mv rfl rfl ?_
  refine XL.lenS e_L_seglog_Record rfl rfl ?_
  refine XL.bin rfl rfl rfl (bNeI) ?_
  refine XL.pkF rfl rfl rfl ?_
  refine XL.nil ?_
  refine XQ.thenN ?_
  refine XC.condF' rfl (decide_eq_false (by simp)) ?_
  refine XC.skip ?_
  refine XQ.thenN ?_
  refine XC.seq ?_
  refine XC.reg ?_
  refine XL.mv rfl rfl ?_
  refine XL.call hb_seglog_Log_Append rfl rfl (appT_fn b1 bd spS1 [97] spI1.1 (by simp)) (t0.c tn) ?_
  rintro _ _ ⟨rfl, rfl⟩
  simp only [List.cons_append, List.nil_append]
  refine XL.nil ?_
  refine XQ.thenN ?_
  refine XC.seq ?_
  refine XC.reg ?_
  refine XL.mv rfl rfl ?_
  refine XL.call hb_seglog_Log_Append rfl rfl (appT_fn b1 bd spS2 [98] spI2.1 (by simp)) (t0.c tn) ?_
  rintro _ _ ⟨rfl, rfl⟩
  simp only [List.cons_append, List.nil_append]
  refine XL.nil ?_
  refine XQ.thenN ?_
  refine XC.seq ?_
  refine XC.opn t0 ?_
  rintro ⟨v9⟩
  dsimp only [List.cons_append, List.nil_append]
  refine XC.reg ?_
  refine XL.mv rfl rfl ?_
  refine XL.call hb_sector_Disk_Crash rfl rfl (crashT_fn bd spS3.D 0 spI3.1.ok.good) (t1.c tn) ?_
  rintro _ _ ⟨rfl, rfl⟩
  simp only [List.cons_append, List.nil_append]
  refine XL.nil ?_
  refine XQ.thenN ?_
  refine XC.seq ?_
  refine XC.reg ?_
  refine XL.mv rfl rfl ?_
  refine XL.call hb_seglog_Open rfl rfl (openT_fn bd spD4 spS4 [⟨0, 0, [97]⟩, ⟨1, 0, [98]⟩] spG4.1 (by rw [spG4.2.1]; omega) (by rw [spG4.2.2]; simp) sp4) (t0.c tn) ?_
  rintro _ _ ⟨b2, vo2, rfl, rfl⟩
  simp only [List.cons_append, List.nil_append]
  refine XL.mv rfl rfl ?_
  refine XL.ex rfl rfl rfl ?_
  refine XL.ex rfl rfl rfl ?_
  refine XL.ex rfl rfl rfl ?_
  refine XL.as rfl rfl ?_
  refine XL.as rfl rfl ?_
  refine XL.as rfl rfl ?_
  refine XL.nil ?_
  refine XQ.thenN ?_
  refine XC.seq ?_
  refine XC.reg ?_
  refine XL.mv rfl rfl ?_
  refine XL.bin rfl rfl rfl (bEqI) ?_
  refine XL.mv rfl rfl ?_
  refine XL.re 44 (u := .bool true) rfl (congrArg Value.bool (decide_eq_true (by omega))) ?_
  refine XL.mv rfl rfl ?_
  refine XL.lenS e_L_seglog_Record rfl rfl ?_
  refine XL.bin rfl rfl rfl (bEqI) ?_
  refine XL.pkT rfl rfl rfl ?_
  refine XL.mv rfl rfl ?_
  refine XL.re 49 (u := .bool true) rfl (rfl) ?_
  refine XL.mv rfl rfl ?_
  refine XL.ixS 1 e_L_seglog_Record rfl rfl rfl (by decide) rfl (fun b51 _ => ?_)
  refine XL.fa fo_seglog_Record_2 rfl rfl ?_
  refine XL.ldSf (o := 2) o_string rfl (by decide) rfl rfl ?_
  refine XL.bin rfl rfl rfl (bEqS) ?_
  refine XL.pkT rfl rfl rfl ?_
  refine XL.mv rfl rfl ?_
  refine XL.re 56 (u := .bool true) rfl (congrArg Value.bool (decide_eq_true rfl)) ?_
  refine XL.mv rfl rfl ?_
  refine XL.call hb_seglog_Log_Boot rfl rfl (seglog_Log_Boot_fn b2 bd spS4.pl spS4.c spS4.D) (t0.c tn) ?_
  rintro _ _ ⟨rfl, rfl⟩
  simp only [List.cons_append, List.nil_append]
  refine XL.bin rfl rfl rfl (bEqI) ?_
  refine XL.pkT rfl rfl rfl ?_
  refine XL.as rfl rfl ?_
  refine XL.nil ?_
  refine XQ.thenN ?_
  refine XC.ret ?_
  exact XQ.ret (.inl rfl) rfl (rC (resT rfl) <| rN) [] (⟨by simp [tupleOf, sp5], rfl⟩) (fun w h => by first | exact Take.sat (t4.c tn) h | exact Take.sat (t5.c tn) h | exact Take.sat (t6.c tn) h)

theorem coraclelaw05_SeglogNil_fn (n : Int) : Does P F_coraclelaw05_SeglogNil [.int .i64 n] [] fun v cs => v = .bool true ∧ cs = [] := by
  refine Does.mk (N := 48) fn_coraclelaw05_SeglogNil rfl rfl rfl (fun F => ?_)
  simp only [List.cons_append, List.nil_append]
  refine XC.seq ?_
  refine XC.reg ?_
  refine XL.as rfl rfl ?_
  refine XL.nil ?_
  refine XQ.thenN ?_
  refine XC.seq ?_
  refine XC.seq ?_
  refine XC.reg ?_
  refine XL.call hb_coraclelaw05_speaks rfl rfl (coraclelaw05_speaks_fn) (tn) ?_
  rintro _ _ ⟨rfl, rfl⟩
  simp only [List.cons_append, List.nil_append]
  refine XL.notT rfl rfl ?_
  refine XL.nil ?_
  refine XQ.thenN ?_
  refine XC.condF' rfl (rfl) ?_
  refine XC.skip ?_
  refine XQ.thenN ?_
  refine XC.seq ?_
  refine XC.reg ?_
  refine XL.as rfl rfl ?_
  refine XL.nil ?_
  refine XQ.thenN ?_
  refine XC.seq ?_
  refine XC.reg ?_
  refine XL.mv rfl rfl ?_
  refine XL.call hb_seglog_Log_Append rfl rfl (seglog_Log_Append_nil_fn [97]) (tn) ?_
  rintro _ _ ⟨rfl, rfl⟩
  simp only [List.cons_append, List.nil_append]
  refine XL.mv rfl rfl ?_
  refine XL.ex rfl rfl rfl ?_
  refine XL.ex rfl rfl rfl ?_
  refine XL.al z_seglog_Record rfl (fun b4 => ?_)
  refine XL.stM g_seglog_Record rfl rfl rfl (by rfl) rfl ?_
  refine XL.as rfl rfl ?_
  refine XL.nil ?_
  refine XQ.thenN ?_
  refine XC.seq ?_
  refine XC.reg ?_
  refine XL.ldM g_seglog_Record rfl (by rfl) rfl ?_
  refine XL.bd z_seglog_Record p_seglog_Record rfl rfl ?_
  refine XL.bin rfl rfl rfl (bEqSt eqs_seglog_Record) ?_
  refine XL.mv rfl rfl ?_
  refine XL.re 16 (u := .bool true) rfl (rfl) ?_
  refine XL.mv rfl rfl ?_
  refine XL.bin rfl rfl rfl (bEqI) ?_
  refine XL.pkT rfl rfl rfl ?_
  refine XL.mv rfl rfl ?_
  refine XL.re 20 (u := .bool true) rfl (congrArg Value.bool (decide_eq_true (by omega))) ?_
  refine XL.mv rfl rfl ?_
  refine XL.mv rfl rfl ?_
  refine XL.call hb_seglog_Log_Drop rfl rfl (seglog_Log_Drop_nil_fn n) (tn) ?_
  rintro _ _ ⟨rfl, rfl⟩
  simp only [List.cons_append, List.nil_append]
  refine XL.bin rfl rfl rfl (bEqI) ?_
  refine XL.pkT rfl rfl rfl ?_
  refine XL.mv rfl rfl ?_
  refine XL.re 26 (u := .bool true) rfl (congrArg Value.bool (decide_eq_true (by omega))) ?_
  refine XL.mv rfl rfl ?_
  refine XL.mv rfl rfl ?_
  refine XL.call hb_seglog_Log_Fits rfl rfl (seglog_Log_Fits_nil_fn n) (tn) ?_
  rintro _ _ ⟨rfl, rfl⟩
  simp only [List.cons_append, List.nil_append]
  refine XL.notT rfl rfl ?_
  refine XL.pkT rfl rfl rfl ?_
  refine XL.mv rfl rfl ?_
  refine XL.re 32 (u := .bool true) rfl (rfl) ?_
  refine XL.mv rfl rfl ?_
  refine XL.call hb_seglog_Log_Segments rfl rfl (seglog_Log_Segments_nil_fn) (tn) ?_
  rintro _ _ ⟨rfl, rfl⟩
  simp only [List.cons_append, List.nil_append]
  refine XL.lenW e_L_seglog_Segment rfl rfl ?_
  refine XL.bin rfl rfl rfl (bEqI) ?_
  refine XL.pkT rfl rfl rfl ?_
  refine XL.mv rfl rfl ?_
  refine XL.re 38 (u := .bool true) rfl (rfl) ?_
  refine XL.mv rfl rfl ?_
  refine XL.call hb_seglog_Log_Free rfl rfl (seglog_Log_Free_nil_fn) (tn) ?_
  rintro _ _ ⟨rfl, rfl⟩
  simp only [List.cons_append, List.nil_append]
  refine XL.bin rfl rfl rfl (bEqI) ?_
  refine XL.pkT rfl rfl rfl ?_
  refine XL.mv rfl rfl ?_
  refine XL.re 43 (u := .bool true) rfl (congrArg Value.bool (decide_eq_true (by omega))) ?_
  refine XL.mv rfl rfl ?_
  refine XL.call hb_seglog_Log_Boot rfl rfl (seglog_Log_Boot_nil_fn) (tn) ?_
  rintro _ _ ⟨rfl, rfl⟩
  simp only [List.cons_append, List.nil_append]
  refine XL.bin rfl rfl rfl (bEqI) ?_
  refine XL.pkT rfl rfl rfl ?_
  refine XL.as rfl rfl ?_
  refine XL.nil ?_
  refine XQ.thenN ?_
  refine XC.ret ?_
  exact XQ.ret (.inl rfl) rfl (rC (resT rfl) <| rN) [] (⟨by simp [tupleOf], rfl⟩) (fun w h => Sat.tail h)
end Go.Proofs.YthlfbndanknnmaaDoor
