/-
  Package seglog: Format. Printed by mk.py out of spec_k05m.py.
-/
import Derived.Test.YthlfbndanknnmaaDoorSxK05l
namespace Go.Proofs.YthlfbndanknnmaaDoor
open Go Go.Sx

def ck0 : Ck := ⟨1, 0, 0, [(0, 0)]⟩
def formatM (D : DiskS) : DiskS := ((D.write 1 []).write 0 (ckB ck0)).flush
theorem ck0_ok : ck0.ok := ⟨by decide, by decide, by decide, by decide, by simp [ck0]⟩

theorem seglog_Format_fn (bd : Nat) (D : DiskS) (hD : Good D) (h66 : 66 ≤ D.now.length) (hq : D.queue.length ≤ 100) : Does P F_seglog_Format [.pointer (some ⟨bd, 0, none⟩)] [diskC bd D] fun u cs => u = .int .i64 0 ∧ cs = [diskC bd (formatM D)] := by
  refine Does.mk (N := 26) fn_seglog_Format rfl rfl rfl (fun F => ?_)
  simp only [List.cons_append, List.nil_append]
  have hN : 4 ≤ segsN D.now.length := by unfold segsN; omega
  have hm := hD.wf.most
  have hg1 : Good (D.write 1 []) := hD.write (by omega) (by simp) (by omega)
  have hl1 := write_len D 1 []
  have hcl : (ckB ck0).length = 28 := ckB_length ck0
  have hq1 : (D.write 1 []).queue.length = D.queue.length + 1 := by simp [DiskS.write]
  have hg2 : Good ((D.write 1 []).write 0 (ckB ck0)) := hg1.write (by omega) (by omega) (by omega)
  refine XC.seq ?_
  refine XC.reg ?_
  refine XL.as rfl rfl ?_
  refine XL.nil ?_
  refine XQ.thenN ?_
  refine XC.seq ?_
  refine XC.seq ?_
  refine XC.reg ?_
  refine XL.mv rfl rfl ?_
  refine XL.call hb_seglog_segments rfl rfl (seglog_segments_fn bd D hD.wf.most) (t0.c tn) ?_
  rintro _ _ ⟨rfl, rfl⟩
  simp only [List.cons_append, List.nil_append]
  refine XL.bin rfl rfl rfl (bLss) ?_
  refine XL.nil ?_
  refine XQ.thenN ?_
  refine XC.condF' rfl (decide_eq_false (by omega)) ?_
  refine XC.skip ?_
  refine XQ.thenN ?_
  refine XC.seq ?_
  refine XC.reg ?_
  refine XL.bd z_seglog_Segment p_seglog_Segment rfl rfl ?_
  refine XL.bs (enc := encG) [(0, 0)] e_L_seglog_Segment z_seglog_Segment rfl rfl rfl (by intro x hx; rfl) rfl (fun v10 _ => ?_)
  refine XL.bd z_seglog_checkpoint p_seglog_checkpoint rfl rfl ?_
  refine XL.al z_seglog_checkpoint rfl (fun b3 => ?_)
  refine XL.stM g_seglog_checkpoint rfl rfl rfl (by rfl) rfl ?_
  refine XL.nil ?_
  refine XQ.thenN ?_
  refine XC.seq ?_
  refine XC.seq ?_
  refine XC.reg ?_
  refine XL.mv rfl rfl ?_
  refine XL.call hb_sector_Disk_Write rfl rfl (sector_Disk_Write_fn bd D 1 [] (by omega) (by simp) (by omega) hm hD.off hD.left) (t2.c tn) ?_
  rintro _ _ ⟨rfl, rfl⟩
  simp only [List.cons_append, List.nil_append]
  refine XL.as rfl rfl ?_
  refine XL.nil ?_
  refine XQ.thenN ?_
  refine XC.seq ?_
  refine XC.reg ?_
  refine XL.mv rfl rfl ?_
  refine XL.bin rfl rfl rfl (bNeI) ?_
  refine XL.nil ?_
  refine XQ.thenN ?_
  refine XC.condF' rfl (decide_eq_false (by omega)) ?_
  refine XC.skip ?_
  refine XQ.thenN ?_
  refine XC.seq ?_
  refine XC.seq ?_
  refine XC.reg ?_
  refine XL.mv rfl rfl ?_
  refine XL.ldM g_seglog_checkpoint rfl (by rfl) rfl ?_
  refine XL.call hb_seglog_checkpoint_bytes rfl rfl (seglog_checkpoint_bytes_fn ck0 v10 ck0_ok) (t2.c tn) ?_
  rintro _ _ ⟨rfl, rfl⟩
  simp only [List.cons_append, List.nil_append]
  refine XL.call hb_sector_Disk_Write rfl rfl (sector_Disk_Write_fn bd (D.write 1 []) 0 (ckB ck0) (by omega) (by omega) (by omega) (by omega) hg1.off hg1.left) (t1.c tn) ?_
  rintro _ _ ⟨rfl, rfl⟩
  simp only [List.cons_append, List.nil_append]
  refine XL.as rfl rfl ?_
  refine XL.nil ?_
  refine XQ.thenN ?_
  refine XC.seq ?_
  refine XC.reg ?_
  refine XL.mv rfl rfl ?_
  refine XL.bin rfl rfl rfl (bNeI) ?_
  refine XL.nil ?_
  refine XQ.thenN ?_
  refine XC.condF' rfl (decide_eq_false (by omega)) ?_
  refine XC.skip ?_
  refine XQ.thenN ?_
  refine XC.seq ?_
  refine XC.reg ?_
  refine XL.mv rfl rfl ?_
  refine XL.call hb_sector_Disk_Flush rfl rfl (sector_Disk_Flush_fn bd ((D.write 1 []).write 0 (ckB ck0)) hg2.wf hg2.off hg2.left) (t0.c tn) ?_
  rintro _ _ ⟨rfl, rfl⟩
  simp only [List.cons_append, List.nil_append]
  refine XL.as rfl rfl ?_
  refine XL.nil ?_
  refine XQ.thenN ?_
  refine XC.ret ?_
  exact XQ.ret (.inl rfl) rfl (rC (resT rfl) <| rN) [diskC bd (formatM D)] (⟨rfl, rfl⟩) (fun w h => Take.sat (t0.c <| t2.c tn) h)
end Go.Proofs.YthlfbndanknnmaaDoor
