/-
  Package seglog: open, Drop, Append, Format. Printed by mk.py out of spec_k05j.py.
-/
import Derived.Test.YthlfbndanknnmaaDoorSxK05i
namespace Go.Proofs.YthlfbndanknnmaaDoor
open Go Go.Sx

/-- The least free segment, below n. -/
def freeAt (c : Ck) (id : Nat) : Bool := !(c.segs.any fun y => decide ((y.1 : Int) = (id : Int)))
def leastF (c : Ck) : Nat → Option Nat
  | 0 => none
  | n + 1 => match leastF c n with | some i => some i | none => if freeAt c n = true then some n else none
theorem leastF_le {c : Ck} {i : Nat} : ∀ {k : Nat}, leastF c i = none → freeAt c i = true → i < k → leastF c k = some i
  | 0, _, _, h => absurd h (Nat.not_lt_zero _)
  | k + 1, h1, h2, h => by
    rw [leastF]
    rcases Nat.lt_or_ge i k with hk | hk
    · rw [leastF_le h1 h2 hk]
    · obtain rfl : k = i := by omega
      rw [h1, if_pos h2]
def Ck.nextWith (c : Ck) (l : List (Nat × Nat)) : Ck := ⟨c.serial + 1, c.boot, c.seq, l⟩

structure LogS where
  c : Ck
  pl : Nat
  D : DiskS
abbrev LogS.C (S : LogS) (b bd : Nat) : Chunk := logC b bd S.c S.pl S.D
/-- What a log is behind a save. -/
def saveM (S : LogS) (c2 : Ck) : LogS := if c2.fit then ⟨c2, 1 - S.pl, (S.D.write (1 - S.pl) (ckB c2)).flush⟩ else S
def errF (c2 : Ck) : Int := if c2.fit then 0 else 21
theorem saveT_fn (b bd : Nat) (S : LogS) (c2 : Ck) (v v2 : Value) (hD : Good S.D) (hpl : S.pl ≤ 1) (hc2 : c2.ok) (h2 : 2 ≤ S.D.now.length) (hq : S.D.queue.length < 1000) [OneV v2] :
    Does P F_seglog_Log_save [.pointer (some ⟨b, 0, none⟩), c2.val v2] [logB b S.c v bd S.pl, diskC bd S.D, c2.sl v2, S.c.sl v] fun u cs => u = .int .i64 (errF c2) ∧ cs = [(saveM S c2).C b bd] := by
  refine (Does.frame (seglog_Log_save_fn b bd S.pl S.c c2 v v2 S.D hD hpl hc2 h2 hq) (rest := [S.c.sl v])).imp ?_
  rintro u c ⟨c', (⟨hf, rfl, rfl⟩ | ⟨hf, rfl, rfl⟩), rfl⟩
  · refine ⟨_, ⟨by unfold errF; rw [if_neg hf], rfl⟩, fun F w h => ?_⟩
    have e : saveM S c2 = S := by unfold saveM; rw [if_neg hf]
    rw [e]
    exact Sat.shut ⟨v⟩ (Take.sat (t0.c <| t0.c <| t1.c <| t1.c tn) h)
  · refine ⟨_, ⟨by unfold errF; rw [if_pos hf], rfl⟩, fun F w h => ?_⟩
    have e : saveM S c2 = ⟨c2, 1 - S.pl, (S.D.write (1 - S.pl) (ckB c2)).flush⟩ := by unfold saveM; rw [if_pos hf]
    rw [e]
    exact Sat.shut ⟨v2⟩ (Take.sat (t0.c <| t0.c <| t0.c <| t1.c tn) h)
/-- What a log is behind an opened segment. -/
def openM (S : LogS) : Int × LogS := match leastF S.c (segsN S.D.now.length) with
  | none => (21, S)
  | some id => (errF (S.c.nextWith (S.c.segs ++ [(id, 0)])), saveM S (S.c.nextWith (S.c.segs ++ [(id, 0)])))

theorem seglog_Log_open_fn (b bd : Nat) (S : LogS) (h : LogOk S.c S.pl S.D) (hq : S.D.queue.length < 1000) (hsn : S.c.segs.length < 64 ∨ leastF S.c (segsN S.D.now.length) = none) : Does P F_seglog_Log_open [.pointer (some ⟨b, 0, none⟩)] [S.C b bd] fun u cs => u = .int .i64 (openM S).1 ∧ cs = [(openM S).2.C b bd] := by
  refine Does.mk (N := 35) fn_seglog_Log_open rfl rfl rfl (fun F => ?_)
  simp only [List.cons_append, List.nil_append]
  refine XC.opn t0 ?_
  rintro ⟨v⟩
  dsimp only [List.cons_append, List.nil_append]
  refine XC.oneV v (fun _ => ?_)
  have hN : segsN S.D.now.length ≤ 64 := by unfold segsN; omega
  refine XC.isAt v 0 h.n0 (fun bs _ => ?_)
  refine XC.seq ?_
  refine XC.reg ?_
  refine XL.as rfl rfl ?_
  refine XL.nil ?_
  refine XQ.thenN ?_
  refine XC.seq ?_
  refine XC.seq ?_
  refine XC.reg ?_
  refine XL.mv rfl rfl ?_
  refine XL.ncP rfl rfl ?_
  refine XL.fa fo_seglog_Log_1 rfl rfl ?_
  refine XL.ld o_P_sector_Disk rfl (by rfl) rfl ?_
  refine XL.call hb_seglog_segments rfl rfl (seglog_segments_fn bd S.D h.good.wf.most) (t1.c tn) ?_
  rintro _ _ ⟨rfl, rfl⟩
  simp only [List.cons_append, List.nil_append]
  refine XL.mv rfl rfl ?_
  refine XL.nil ?_
  refine XQ.thenN ?_
  refine XC.block ?_
  refine XC.loop (ι := Nat) (fun i => [(0, .pointer (some ⟨b, 0, none⟩)), (8, .int .i64 (segsN S.D.now.length : Int)), (9, .int .i64 (i : Int))]) (fun i => [logB b S.c v bd S.pl, diskC bd S.D, S.c.sl v, F])
    (fun i => i ≤ segsN S.D.now.length ∧ leastF S.c i = none) (fun i => segsN S.D.now.length - i) 0 ⟨Nat.zero_le _, rfl⟩ ⟨rfl, rfl, rfl, trivial⟩ (fun w h => Take.sat (t1.c <| t0.c tall) h) (fun i hi => ?_)
  refine XC.seq ?_
  refine XC.reg ?_
  refine XL.bin rfl rfl rfl (bLss) ?_
  refine XL.nil ?_
  refine XQ.thenN ?_
  refine XC.seq ?_
  refine XC.cond rfl (fun hc0 => ?_) (fun hc0 => ?_)
  · have hlt : i < segsN S.D.now.length := by omega
    refine XC.skip ?_
    refine XQ.thenN ?_
    refine XC.seq ?_
    refine XC.block ?_
    refine XC.seq ?_
    refine XC.reg ?_
    refine XL.mv rfl rfl ?_
    refine XL.al z_int rfl (fun b3 => ?_)
    refine XL.st o_int rfl rfl rfl ?_
    refine XL.nil ?_
    refine XQ.thenN ?_
    refine XC.seq ?_
    refine XC.reg ?_
    refine XL.mv rfl rfl ?_
    refine XL.ncP rfl rfl ?_
    refine XL.fa fo_seglog_Log_0 rfl rfl ?_
    refine XL.fa fo_seglog_checkpoint_3 rfl rfl ?_
    refine XL.ld o_L_seglog_Segment rfl (by rfl) rfl ?_
    refine XL.mkf (vf := []) rfl (vc := [_]) rfl rfl ?_
    refine XL.call hb_slices_ContainsFunc_L_seglog_Segment_seglog_Segment rfl rfl (slices_ContainsFunc_L_seglog_Segment_seglog_Segment_fn v (.pointer (some ⟨b3, 0, none⟩)) S.c.segs F_seglog_Log_open_c1 (blk b3 [.int .i64 (i : Int)] T_int) (fun y => decide ((y.1 : Int) = (i : Int))) hb_seglog_Log_open_c1 (by have := h.n64; omega) (fun x => seglog_Log_open_c1_fn x b3 _)) (t3.c <| t0.c tn) ?_
    rintro _ _ ⟨rfl, rfl⟩
    simp only [List.cons_append, List.nil_append]
    refine XL.notT rfl rfl ?_
    refine XL.nil ?_
    refine XQ.thenN ?_
    refine XC.condB rfl (fun hc1 => ?_) (fun hc1 => ?_)
    · refine XC.seq ?_
      have hle : leastF S.c (segsN S.D.now.length) = some i := leastF_le hi.2 (by unfold freeAt; exact hc1) hlt
      have hl64 : S.c.segs.length < 64 := hsn.resolve_right (by rw [hle]; simp)
      have hok : (S.c.nextWith (S.c.segs ++ [(i, 0)])).ok := ⟨by have := h.s; simp only [Ck.nextWith]; omega, by have := h.b; simp only [Ck.nextWith]; omega, by have := h.q; simp only [Ck.nextWith]; omega, by simp only [Ck.nextWith, List.length_append, List.length_singleton]; omega, fun x hx => by simp only [Ck.nextWith, List.mem_append, List.mem_singleton] at hx; rcases hx with hx | rfl; (have := h.x x hx; have := h.good.wf.most; omega); (dsimp only; omega)⟩
      refine XC.drw (.q 0 <| .q 1 <| .q 2 <| .q 3 <| .q 4 <| .q 5 <| .q 6 <| .q 8 <| .q 9 <| .e2 7 (.r 0 <| .r 1 <| .r 8 <| .r 9 <| .e 10 <| .r 0 <| .r 1 <| .e 11 <| .r 0 <| .r 1 <| .q 12 <| .e 13 <| .e 14 <| .done) 10 (.r 0 <| .r 1 <| .r 2 <| .r 3 <| .r 4 <| .r 5 <| .r 6 <| .e 7 <| .r 0 <| .r 1 <| .e 11 <| .r 0 <| .r 1 <| .q 12 <| .e 13 <| .e 14 <| .done)) mixed (by kernel_rfl) rfl ?_
      refine JP.qq rfl rfl rfl (XL.mv rfl rfl XL.qd) ?_
      refine JP.qq rfl rfl rfl (XL.mv rfl rfl XL.qd) ?_
      refine JP.qq rfl rfl rfl (XL.mv rfl rfl XL.qd) ?_
      refine JP.qq rfl rfl rfl (XL.ncP rfl rfl XL.qd) ?_
      refine JP.qq rfl rfl rfl (XL.fa fo_seglog_Log_0 rfl rfl XL.qd) ?_
      refine JP.qq rfl rfl rfl (XL.fa fo_seglog_checkpoint_3 rfl rfl XL.qd) ?_
      refine JP.qq rfl rfl rfl (XL.ld o_L_seglog_Segment rfl (by rfl) rfl XL.qd) ?_
      refine JP.qq rfl rfl rfl (XL.ld o_int rfl (by rfl) rfl XL.qd) ?_
      refine JP.qq rfl rfl rfl (XL.bd z_seglog_Segment p_seglog_Segment rfl rfl XL.qd) ?_
      refine JP.e22 ?_ ?_
      · refine ⟨_, rfl, ?_⟩
        refine XL.call hb_slices_Clone_L_seglog_Segment_seglog_Segment rfl rfl (slices_Clone_L_seglog_Segment_seglog_Segment_fn v S.c.segs h.n0 (by omega)) (t0.c tn) ?_
        rintro u _ rfl
        simp only [List.cons_append, List.nil_append]
        refine XL.ed ?_
        refine JP.rr rfl rfl rfl (XL.mv rfl rfl XL.qd) ?_
        refine JP.rr rfl rfl rfl (XL.mv rfl rfl XL.qd) ?_
        refine JP.rr rfl rfl rfl (XL.ld o_int rfl (by rfl) rfl XL.qd) ?_
        refine JP.rr rfl rfl rfl (XL.bd z_seglog_Segment p_seglog_Segment rfl rfl XL.qd) ?_
        refine JP.ee rfl ?_
        refine XL.bs (enc := encG) [(i, 0)] e_L_seglog_Segment z_seglog_Segment rfl rfl rfl (by intro x hx; rfl) rfl (fun v30 _ => ?_)
        refine XL.ed ?_
        refine JP.rr rfl rfl rfl (XL.mv rfl rfl XL.qd) ?_
        refine JP.rr rfl rfl rfl (XL.mv rfl rfl XL.qd) ?_
        refine JP.ee rfl ?_
        refine XL.app [(i, 0)] e_L_seglog_Segment e_L_seglog_Segment z_seglog_Segment rfl rfl rfl rfl (fun x _ => encG_one x) (by first | omega | (simp [numB_length] <;> omega)) rfl (fun v31 _ => ?_)
        refine XL.ed ?_
        refine JP.rr rfl rfl rfl (XL.mv rfl rfl XL.qd) ?_
        refine JP.rr rfl rfl rfl (XL.mv rfl rfl XL.qd) ?_
        refine JP.qq rfl rfl rfl (XL.call hb_seglog_Log_next rfl rfl (seglog_Log_next_fn b bd S.pl S.c v v31 (by have := h.s; omega)) (t4.c tn) (by rintro _ _ ⟨rfl, rfl⟩; exact XL.qdp (fun w h => Take.sat (t1.c <| t1.c <| t1.c <| t1.c <| t0.c tall) h))) ?_
        refine JP.ee rfl ?_
        refine XL.call hb_seglog_Log_save rfl rfl (saveT_fn b bd S (S.c.nextWith (S.c.segs ++ [(i, 0)])) v v31 h.good h.pl hok (by have := h.d; omega) hq) (t4.c <| t4.c <| t0.c <| t1.c tn) ?_
        rintro _ _ ⟨rfl, rfl⟩
        simp only [List.cons_append, List.nil_append]
        refine XL.ed ?_
        refine JP.ee rfl ?_
        refine XL.as rfl rfl ?_
        refine XL.ed ?_
        refine JP.done ?_
        refine XQ.thenN ?_
        refine XC.ret ?_
        refine XQ.blkR ?_
        refine XQ.thenR ?_
        refine XQ.thenR ?_
        refine XQ.blkR ?_
        refine XQ.thenR ?_
        exact XQ.ret (.inl rfl) rfl (rC (resT rfl) <| rN) [(openM S).2.C b bd] (⟨by unfold openM; rw [hle]; rfl, rfl⟩) (fun w hs => by unfold openM; rw [hle]; exact Take.sat (t0.c <| t2.c tn) hs)
      · refine ⟨_, rfl, ?_⟩
        refine XL.bs (enc := encG) [(i, 0)] e_L_seglog_Segment z_seglog_Segment rfl rfl rfl (by intro x hx; rfl) rfl (fun v30 _ => ?_)
        refine XL.ed ?_
        refine JP.rr rfl rfl rfl (XL.mv rfl rfl XL.qd) ?_
        refine JP.rr rfl rfl rfl (XL.mv rfl rfl XL.qd) ?_
        refine JP.rr rfl rfl rfl (XL.mv rfl rfl XL.qd) ?_
        refine JP.rr rfl rfl rfl (XL.ncP rfl rfl XL.qd) ?_
        refine JP.rr rfl rfl rfl (XL.fa fo_seglog_Log_0 rfl rfl XL.qd) ?_
        refine JP.rr rfl rfl rfl (XL.fa fo_seglog_checkpoint_3 rfl rfl XL.qd) ?_
        refine JP.rr rfl rfl rfl (XL.ld o_L_seglog_Segment rfl (by rfl) rfl XL.qd) ?_
        refine JP.ee rfl ?_
        refine XL.call hb_slices_Clone_L_seglog_Segment_seglog_Segment rfl rfl (slices_Clone_L_seglog_Segment_seglog_Segment_fn v S.c.segs h.n0 (by omega)) (t1.c tn) ?_
        rintro u _ rfl
        simp only [List.cons_append, List.nil_append]
        refine XL.ed ?_
        refine JP.rr rfl rfl rfl (XL.mv rfl rfl XL.qd) ?_
        refine JP.rr rfl rfl rfl (XL.mv rfl rfl XL.qd) ?_
        refine JP.ee rfl ?_
        refine XL.app [(i, 0)] e_L_seglog_Segment e_L_seglog_Segment z_seglog_Segment rfl rfl rfl rfl (fun x _ => encG_one x) (by first | omega | (simp [numB_length] <;> omega)) rfl (fun v31 _ => ?_)
        refine XL.ed ?_
        refine JP.rr rfl rfl rfl (XL.mv rfl rfl XL.qd) ?_
        refine JP.rr rfl rfl rfl (XL.mv rfl rfl XL.qd) ?_
        refine JP.qq rfl rfl rfl (XL.call hb_seglog_Log_next rfl rfl (seglog_Log_next_fn b bd S.pl S.c v v31 (by have := h.s; omega)) (t4.c tn) (by rintro _ _ ⟨rfl, rfl⟩; exact XL.qdp (fun w h => Take.sat (t1.c <| t1.c <| t1.c <| t1.c <| t0.c tall) h))) ?_
        refine JP.ee rfl ?_
        refine XL.call hb_seglog_Log_save rfl rfl (saveT_fn b bd S (S.c.nextWith (S.c.segs ++ [(i, 0)])) v v31 h.good h.pl hok (by have := h.d; omega) hq) (t4.c <| t4.c <| t0.c <| t0.c tn) ?_
        rintro _ _ ⟨rfl, rfl⟩
        simp only [List.cons_append, List.nil_append]
        refine XL.ed ?_
        refine JP.ee rfl ?_
        refine XL.as rfl rfl ?_
        refine XL.ed ?_
        refine JP.done ?_
        refine XQ.thenN ?_
        refine XC.ret ?_
        refine XQ.blkR ?_
        refine XQ.thenR ?_
        refine XQ.thenR ?_
        refine XQ.blkR ?_
        refine XQ.thenR ?_
        exact XQ.ret (.inl rfl) rfl (rC (resT rfl) <| rN) [(openM S).2.C b bd] (⟨by unfold openM; rw [hle]; rfl, rfl⟩) (fun w hs => by unfold openM; rw [hle]; exact Take.sat (t0.c <| t2.c tn) hs)
    · refine XC.skip ?_
      refine XQ.blkN ?_
      refine XQ.thenN ?_
      refine XC.reg ?_
      refine XL.bin rfl rfl rfl (bAdd (by omega)) ?_
      refine XL.mv rfl rfl ?_
      refine XL.nil ?_
      exact XQ.again (i + 1) ⟨by omega, by rw [leastF, hi.2]; unfold freeAt; rw [if_neg (by simpa using hc1)]⟩ (by omega) ⟨rfl, rfl, rfl, trivial⟩ (fun w h => Take.sat (t2.c <| t2.c <| t0.c <| t1.c tn) h)
  · have hie : i = segsN S.D.now.length := by omega
    refine XC.exit ?_
    refine XQ.thenE ?_
    refine XQ.thenE ?_
    refine XQ.blkE ?_
    refine XQ.thenN ?_
    refine XC.seq ?_
    refine XC.reg ?_
    refine XL.as rfl rfl ?_
    refine XL.nil ?_
    refine XQ.thenN ?_
    refine XC.ret ?_
    exact XQ.ret (.inl rfl) rfl (rC (resT rfl) <| rN) [(openM S).2.C b bd] (⟨by unfold openM; rw [← hie, hi.2]; rfl, rfl⟩) (fun w hs => by unfold openM; rw [← hie, hi.2]; exact Sat.shut ⟨v⟩ hs)
end Go.Proofs.YthlfbndanknnmaaDoor
