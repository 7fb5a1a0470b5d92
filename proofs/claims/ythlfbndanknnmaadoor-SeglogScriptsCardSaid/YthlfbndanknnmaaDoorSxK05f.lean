/-
  Package seglog: a log that is saved. Printed by mk.py out of spec_k05f.py.
-/
import Derived.Test.YthlfbndanknnmaaDoorSxK05e
namespace Go.Proofs.YthlfbndanknnmaaDoor
open Go Go.Sx

/-- A disk in order, on, without a cut to come. -/
structure Good (D : DiskS) : Prop where
  wf : D.wf
  off : D.off = false
  left : D.left = 0
  ql : D.queue.length ≤ 1000
def Ck.fit (c : Ck) : Prop := c.serial ≤ 1152921504606846976 ∧ c.boot ≤ 1152921504606846976 ∧ c.seq ≤ 1152921504606846976
instance (c : Ck) : Decidable c.fit := inferInstanceAs (Decidable (_ ∧ _))
theorem fit_B (c : Ck) : fitsB [(c.serial : Int), (c.boot : Int), (c.seq : Int)] = decide c.fit := by
  by_cases hf : c.fit
  · rw [decide_eq_true hf]
    unfold Ck.fit at hf
    simp [fitsB]; omega
  · rw [decide_eq_false hf, Bool.eq_false_iff]
    intro h
    simp [fitsB] at h
    exact hf (by unfold Ck.fit; omega)
def DiskS.flush (D : DiskS) : DiskS := { D with lasting := D.now, queue := [] }
theorem Good.write {D : DiskS} (h : Good D) {n : Nat} {data : List UInt8} (hn : n < D.now.length) (hd : data.length ≤ 256) (hq : D.queue.length < 1000) : Good (D.write n data) := by
  obtain ⟨⟨h1, h2, h3, h4, h5, h6⟩, ho, hl, hql⟩ := h
  refine ⟨⟨by simp [DiskS.write, h1], by simp [DiskS.write, h2], ?_, h4, h5, ?_⟩, ho, hl, by simp [DiskS.write]; omega⟩
  · intro x hx
    simp only [DiskS.write, List.mem_append, List.mem_singleton] at hx ⊢
    rcases hx with hx | rfl
    · exact h3 x hx
    · dsimp only; omega
  · intro s hs
    simp only [DiskS.write] at hs
    rcases List.mem_or_eq_of_mem_set hs with hs | rfl
    · exact h6 s hs
    · exact hd
theorem Good.flush {D : DiskS} (h : Good D) : Good D.flush := by
  obtain ⟨⟨h1, h2, h3, h4, h5, h6⟩, ho, hl, hql⟩ := h
  exact ⟨⟨by simp [DiskS.flush], by simpa [DiskS.flush] using h2, (by intro x hx; cases hx), h4, h5, h6⟩, ho, hl, by simp [DiskS.flush]⟩
theorem write_len (D : DiskS) (n : Nat) (data : List UInt8) : (D.write n data).now.length = D.now.length := by simp [DiskS.write]

theorem seglog_checkpoint_last_fn (c : Ck) (v : Value) (bs : Nat) (h0 : 0 < c.segs.length) (h1 : c.segs.length ≤ 64) [IsAt v bs] : Does P F_seglog_checkpoint_last [c.val v] [c.sl v] fun u cs => u = .pointer (some ⟨bs, (c.segs.length - 1) * 2, none⟩) ∧ cs = [c.sl v] := by
  refine Does.mk (N := 10) fn_seglog_checkpoint_last rfl rfl rfl (fun F => ?_)
  simp only [List.cons_append, List.nil_append]
  refine XC.oneV v (fun _ => ?_)
  refine XC.seq ?_
  refine XC.reg ?_
  refine XL.bx rfl rfl rfl (fun b1 => ?_)
  refine XL.as rfl rfl ?_
  refine XL.nil ?_
  refine XQ.thenN ?_
  refine XC.seq ?_
  refine XC.reg ?_
  refine XL.fa fo_seglog_checkpoint_3 rfl rfl ?_
  refine XL.ld o_L_seglog_Segment rfl (by rfl) rfl ?_
  refine XL.fa fo_seglog_checkpoint_3 rfl rfl ?_
  refine XL.ld o_L_seglog_Segment rfl (by rfl) rfl ?_
  refine XL.lenS e_L_seglog_Segment rfl rfl ?_
  refine XL.bin rfl rfl rfl (bSub (by omega)) ?_
  refine XL.ixB (c.segs.length - 1) e_L_seglog_Segment rfl rfl (by omega) (by omega) rfl ?_
  refine XL.as rfl rfl ?_
  refine XL.nil ?_
  refine XQ.thenN ?_
  refine XC.ret ?_
  exact XQ.ret (.inl rfl) rfl (rC (resT rfl) <| rN) [c.sl v] (⟨rfl, rfl⟩) (fun w h => Take.sat (t1.c <| t1.c tn) h)

theorem seglog_Log_next_fn (b bd pl : Nat) (c : Ck) (v v2 : Value) (hs : c.serial < 9223372036854775807) [OneV v2] : Does P F_seglog_Log_next [.pointer (some ⟨b, 0, none⟩), v2] [logB b c v bd pl] fun u cs => u = .agg #[.int .i64 ((c.serial + 1 : Nat) : Int), .int .i64 (c.boot : Int), .int .i64 (c.seq : Int), v2] ∧ cs = [logB b c v bd pl] := by
  refine Does.mk (N := 23) fn_seglog_Log_next rfl rfl rfl (fun F => ?_)
  simp only [List.cons_append, List.nil_append]
  refine XC.seq ?_
  refine XC.reg ?_
  refine XL.al z_seglog_checkpoint rfl (fun b4 => ?_)
  refine XL.nil ?_
  refine XQ.thenN ?_
  refine XC.seq ?_
  refine XC.drw (.q 0 <| .q 1 <| .q 2 <| .q 3 <| .q 4 <| .q 5 <| .q 6 <| .q 7 <| .q 8 <| .q 9 <| .q 10 <| .q 11 <| .q 12 <| .q 13 <| .q 14 <| .q 15 <| .q 16 <| .q 17 <| .e 18 <| .done) mixed (by kernel_rfl) rfl ?_
  refine JP.qq rfl rfl rfl (XL.mv rfl rfl XL.qd) ?_
  refine JP.qq rfl rfl rfl (XL.ncP rfl rfl XL.qd) ?_
  refine JP.qq rfl rfl rfl (XL.fa fo_seglog_Log_0 rfl rfl XL.qd) ?_
  refine JP.qq rfl rfl rfl (XL.fa fo_seglog_checkpoint_0 rfl rfl XL.qd) ?_
  refine JP.qq rfl rfl rfl (XL.ld o_int rfl (by rfl) rfl XL.qd) ?_
  refine JP.qq rfl rfl rfl (XL.bin rfl rfl rfl (bAdd (by omega)) XL.qd) ?_
  refine JP.qq rfl rfl rfl (XL.mv rfl rfl XL.qd) ?_
  refine JP.qq rfl rfl rfl (XL.ncP rfl rfl XL.qd) ?_
  refine JP.qq rfl rfl rfl (XL.fa fo_seglog_Log_0 rfl rfl XL.qd) ?_
  refine JP.qq rfl rfl rfl (XL.fa fo_seglog_checkpoint_1 rfl rfl XL.qd) ?_
  refine JP.qq rfl rfl rfl (XL.ld o_int rfl (by rfl) rfl XL.qd) ?_
  refine JP.qq rfl rfl rfl (XL.mv rfl rfl XL.qd) ?_
  refine JP.qq rfl rfl rfl (XL.ncP rfl rfl XL.qd) ?_
  refine JP.qq rfl rfl rfl (XL.fa fo_seglog_Log_0 rfl rfl XL.qd) ?_
  refine JP.qq rfl rfl rfl (XL.fa fo_seglog_checkpoint_2 rfl rfl XL.qd) ?_
  refine JP.qq rfl rfl rfl (XL.ld o_int rfl (by rfl) rfl XL.qd) ?_
  refine JP.qq rfl rfl rfl (XL.mv rfl rfl XL.qd) ?_
  refine JP.qq rfl rfl rfl (XL.bd z_seglog_checkpoint p_seglog_checkpoint rfl rfl XL.qd) ?_
  refine JP.ee rfl ?_
  refine XL.stM g_seglog_checkpoint rfl rfl rfl (by rfl) rfl ?_
  refine XL.edn ?_
  refine JP.done ?_
  refine XQ.thenN ?_
  refine XC.ret ?_
  exact XQ.ret (.inl rfl) rfl (rC (resN g_seglog_checkpoint rfl rfl rfl) <| rN) [logB b c v bd pl] (⟨rfl, rfl⟩) (fun w h => Take.sat (t1.c <| t1.c tn) h)

theorem seglog_Log_save_fn (b bd pl : Nat) (c c2 : Ck) (v v2 : Value) (D : DiskS) (hD : Good D) (hpl : pl ≤ 1) (hc2 : c2.ok) (h2 : 2 ≤ D.now.length) (hq : D.queue.length < 1000) [OneV v2] :
  Does P F_seglog_Log_save [.pointer (some ⟨b, 0, none⟩), c2.val v2] [logB b c v bd pl, diskC bd D, c2.sl v2] fun u cs => (¬ c2.fit ∧ u = .int .i64 21 ∧ cs = [logB b c v bd pl, diskC bd D, c2.sl v2]) ∨ (c2.fit ∧ u = .int .i64 0 ∧ cs = [logB b c2 v2 bd (1 - pl), diskC bd (D.write (1 - pl) (ckB c2)).flush, c2.sl v2]) := by
  refine Does.mk (N := 51) fn_seglog_Log_save rfl rfl rfl (fun F => ?_)
  simp only [List.cons_append, List.nil_append]
  have hcl := ckB_length c2
  have hcn := hc2.n
  refine XC.seq ?_
  refine XC.reg ?_
  refine XL.bx rfl rfl rfl (fun b3 => ?_)
  refine XL.as rfl rfl ?_
  refine XL.nil ?_
  refine XQ.thenN ?_
  refine XC.seq ?_
  refine XC.seq ?_
  refine XC.reg ?_
  refine XL.fa fo_seglog_checkpoint_0 rfl rfl ?_
  refine XL.ld o_int rfl (by rfl) rfl ?_
  refine XL.fa fo_seglog_checkpoint_1 rfl rfl ?_
  refine XL.ld o_int rfl (by rfl) rfl ?_
  refine XL.fa fo_seglog_checkpoint_2 rfl rfl ?_
  refine XL.ld o_int rfl (by rfl) rfl ?_
  refine XL.bs (enc := encI) [(c2.serial : Int), (c2.boot : Int), (c2.seq : Int)] e_L_int z_int rfl rfl rfl (by intro x hx; rfl) rfl (fun v13 _ => ?_)
  refine XL.call hb_seglog_fits rfl rfl (seglog_fits_fn v13 [(c2.serial : Int), (c2.boot : Int), (c2.seq : Int)] (by simp)) (t0.c tn) ?_
  rintro _ _ ⟨rfl, rfl⟩
  simp only [List.cons_append, List.nil_append]
  refine XL.notT rfl rfl ?_
  refine XL.nil ?_
  refine XQ.thenN ?_
  refine XC.condB rfl (fun hc0 => ?_) (fun hc0 => ?_)
  · refine XC.seq ?_
    refine XC.reg ?_
    refine XL.as rfl rfl ?_
    refine XL.nil ?_
    refine XQ.thenN ?_
    refine XC.ret ?_
    refine XQ.thenR ?_
    exact XQ.ret (.inl rfl) rfl (rC (resT rfl) <| rN) [logB b c v bd pl, diskC bd D, c2.sl v2] (.inl ⟨by rw [fit_B] at hc0; simpa using hc0, rfl, rfl⟩) (fun w h => Take.sat (t2.c <| t2.c <| t2.c <| t2.c tn) h)
  · refine XC.skip ?_
    refine XQ.thenN ?_
    refine XC.seq ?_
    refine XC.seq ?_
    refine XC.perm (t4.c <| t2.c <| t2.c <| t1.c <| t1.c tn) ?_
    refine XC.drw (.q 0 <| .q 1 <| .q 2 <| .q 3 <| .q 4 <| .q 5 <| .q 6 <| .q 7 <| .q 8 <| .q 9 <| .q 10 <| .e 11 <| .e 12 <| .done) mixed (by kernel_rfl) rfl ?_
    refine JP.qq rfl rfl rfl (XL.mv rfl rfl XL.qd) ?_
    refine JP.qq rfl rfl rfl (XL.ncP rfl rfl XL.qd) ?_
    refine JP.qq rfl rfl rfl (XL.fa fo_seglog_Log_1 rfl rfl XL.qd) ?_
    refine JP.qq rfl rfl rfl (XL.ld o_P_sector_Disk rfl (by rfl) rfl XL.qd) ?_
    refine JP.qq rfl rfl rfl (XL.mv rfl rfl XL.qd) ?_
    refine JP.qq rfl rfl rfl (XL.ncP rfl rfl XL.qd) ?_
    refine JP.qq rfl rfl rfl (XL.fa fo_seglog_Log_2 rfl rfl XL.qd) ?_
    refine JP.qq rfl rfl rfl (XL.ld o_int rfl (by rfl) rfl XL.qd) ?_
    refine JP.qq rfl rfl rfl (XL.bin rfl rfl rfl (bSub (by omega)) (XL.re 24 (u := .int .i64 ((1 - pl : Nat) : Int)) rfl (congrArg (Value.int .i64) (by omega)) XL.qd)) ?_
    refine JP.qq rfl rfl rfl (XL.ldM g_seglog_checkpoint rfl (by rfl) rfl XL.qd) ?_
    refine JP.qq rfl rfl rfl (XL.call hb_seglog_checkpoint_bytes rfl rfl (seglog_checkpoint_bytes_fn c2 v2 hc2) (t0.c tn) (by rintro _ _ ⟨rfl, rfl⟩; exact XL.qdp (fun w h => h))) ?_
    refine JP.ee rfl ?_
    refine XL.call hb_sector_Disk_Write rfl rfl (sector_Disk_Write_fn bd D (1 - pl) (ckB c2) (by omega) (by omega) (by have := hD.ql; omega) hD.wf.most hD.off hD.left) (t2.c tn) ?_
    rintro _ _ ⟨rfl, rfl⟩
    simp only [List.cons_append, List.nil_append]
    refine XL.ed ?_
    refine JP.ee rfl ?_
    refine XL.as rfl rfl ?_
    refine XL.ed ?_
    refine JP.done ?_
    refine XQ.thenN ?_
    refine XC.seq ?_
    refine XC.reg ?_
    refine XL.mv rfl rfl ?_
    refine XL.bin rfl rfl rfl (bNeI) ?_
    refine XL.nil ?_
    refine XQ.thenN ?_
    refine XC.condF' rfl (decide_eq_false (by omega)) ?_
    refine XC.skip ?_
    refine XQ.thenN ?_
    refine XC.seq ?_
    refine XC.seq ?_
    refine XC.reg ?_
    refine XL.mv rfl rfl ?_
    refine XL.ncP rfl rfl ?_
    refine XL.fa fo_seglog_Log_1 rfl rfl ?_
    refine XL.ld o_P_sector_Disk rfl (by rfl) rfl ?_
    refine XL.call hb_sector_Disk_Flush rfl rfl (sector_Disk_Flush_fn bd (D.write (1 - pl) (ckB c2)) (hD.write (by omega) (by omega) hq).wf hD.off hD.left) (t0.c tn) ?_
    rintro _ _ ⟨rfl, rfl⟩
    simp only [List.cons_append, List.nil_append]
    refine XL.as rfl rfl ?_
    refine XL.nil ?_
    refine XQ.thenN ?_
    refine XC.seq ?_
    refine XC.reg ?_
    refine XL.mv rfl rfl ?_
    refine XL.bin rfl rfl rfl (bNeI) ?_
    refine XL.nil ?_
    refine XQ.thenN ?_
    refine XC.condF' rfl (decide_eq_false (by omega)) ?_
    refine XC.skip ?_
    refine XQ.thenN ?_
    refine XC.seq ?_
    refine XC.reg ?_
    refine XL.mv rfl rfl ?_
    refine XL.ldM g_seglog_checkpoint rfl (by rfl) rfl ?_
    refine XL.ncP rfl rfl ?_
    refine XL.fa fo_seglog_Log_0 rfl rfl ?_
    refine XL.stM g_seglog_checkpoint rfl rfl rfl (by rfl) rfl ?_
    refine XL.nil ?_
    refine XQ.thenN ?_
    refine XC.seq ?_
    refine XC.reg ?_
    refine XL.mv rfl rfl ?_
    refine XL.mv rfl rfl ?_
    refine XL.ncP rfl rfl ?_
    refine XL.fa fo_seglog_Log_2 rfl rfl ?_
    refine XL.ld o_int rfl (by rfl) rfl ?_
    refine XL.bin rfl rfl rfl (bSub (by omega)) ?_
    refine XL.ncP rfl rfl ?_
    refine XL.fa fo_seglog_Log_2 rfl rfl ?_
    refine XL.re 48 (u := .int .i64 ((1 - pl : Nat) : Int)) rfl (congrArg (Value.int .i64) (by omega)) ?_
    refine XL.st o_int rfl rfl rfl ?_
    refine XL.nil ?_
    refine XQ.thenN ?_
    refine XC.seq ?_
    refine XC.reg ?_
    refine XL.as rfl rfl ?_
    refine XL.nil ?_
    refine XQ.thenN ?_
    refine XC.ret ?_
    exact XQ.ret (.inl rfl) rfl (rC (resT rfl) <| rN) [logB b c2 v2 bd (1 - pl), diskC bd (D.write (1 - pl) (ckB c2)).flush, c2.sl v2] (.inr ⟨by rw [fit_B] at hc0; simpa using hc0, rfl, rfl⟩) (fun w h => Take.sat (t2.c <| t0.c <| t0.c <| t1.c tn) h)
end Go.Proofs.YthlfbndanknnmaaDoor
