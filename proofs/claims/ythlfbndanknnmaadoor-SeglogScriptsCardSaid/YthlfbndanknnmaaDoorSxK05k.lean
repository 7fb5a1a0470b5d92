/-
  Package seglog: Drop. Printed by mk.py out of spec_k05k.py.
-/
import Derived.Test.YthlfbndanknnmaaDoorSxK05j
namespace Go.Proofs.YthlfbndanknnmaaDoor
open Go Go.Sx

abbrev isSeg (n : Int) (y : Nat × Nat) : Bool := decide ((y.1 : Int) = n)
theorem idxZ_nat {p : Nat × Nat → Bool} {l : List (Nat × Nat)} (h : ¬ idxZ p l < 0) : ∃ j : Nat, idxZ p l = (j : Int) ∧ j < l.length := by
  unfold idxZ at *
  split at h
  · rename_i ha
    rw [if_pos ha]
    exact ⟨_, rfl, List.findIdx_lt_length_of_exists (by simpa using ha)⟩
  · omega
theorem idxZ_range (p : Nat × Nat → Bool) (l : List (Nat × Nat)) : -1 ≤ idxZ p l ∧ idxZ p l ≤ l.length := by
  unfold idxZ
  have := List.findIdx_le_length (p := p) (xs := l)
  split <;> omega
/-- What a log is behind a Drop. -/
def dropM (S : LogS) (n : Int) : Int × LogS :=
  if idxZ (isSeg n) S.c.segs < 0 then (1, S) else if idxZ (isSeg n) S.c.segs = (S.c.segs.length : Int) - 1 then (1, S)
  else (errF (S.c.nextWith (S.c.segs.eraseIdx (idxZ (isSeg n) S.c.segs).toNat)), saveM S (S.c.nextWith (S.c.segs.eraseIdx (idxZ (isSeg n) S.c.segs).toNat)))
theorem nextWith_ok {S : LogS} (h : LogOk S.c S.pl S.D) {l : List (Nat × Nat)} (hl : l.length ≤ 64) (hx : ∀ x ∈ l, 18 + 16 * x.1 ≤ S.D.now.length ∧ x.2 ≤ 16) : (S.c.nextWith l).ok := by
  have hm := h.good.wf.most
  exact ⟨by have := h.s; simp only [Ck.nextWith]; omega, by have := h.b; simp only [Ck.nextWith]; omega, by have := h.q; simp only [Ck.nextWith]; omega, hl, fun x hxl => by have := hx x hxl; omega⟩

theorem seglog_Log_Drop_fn (b bd : Nat) (S : LogS) (n : Int) (h : LogOk S.c S.pl S.D) (hq : S.D.queue.length < 1000) : Does P F_seglog_Log_Drop [.pointer (some ⟨b, 0, none⟩), .int .i64 n] [S.C b bd] fun u cs => u = .int .i64 (dropM S n).1 ∧ cs = [(dropM S n).2.C b bd] := by
  refine Does.mk (N := 42) fn_seglog_Log_Drop rfl rfl rfl (fun F => ?_)
  simp only [List.cons_append, List.nil_append]
  refine XC.opn t0 ?_
  rintro ⟨v⟩
  dsimp only [List.cons_append, List.nil_append]
  refine XC.oneV v (fun _ => ?_)
  refine XC.seq ?_
  refine XC.reg ?_
  refine XL.bx rfl rfl rfl (fun b3 => ?_)
  refine XL.as rfl rfl ?_
  refine XL.nil ?_
  refine XQ.thenN ?_
  refine XC.seq ?_
  refine XC.seq ?_
  refine XC.reg ?_
  refine XL.mv rfl rfl ?_
  refine XL.bin rfl rfl rfl (bEqPF u_P_seglog_Log) ?_
  refine XL.nil ?_
  refine XQ.thenN ?_
  refine XC.condF rfl ?_
  refine XC.skip ?_
  refine XQ.thenN ?_
  refine XC.seq ?_
  refine XC.reg ?_
  refine XL.mv rfl rfl ?_
  refine XL.ncP rfl rfl ?_
  refine XL.fa fo_seglog_Log_0 rfl rfl ?_
  refine XL.fa fo_seglog_checkpoint_3 rfl rfl ?_
  refine XL.ld o_L_seglog_Segment rfl (by rfl) rfl ?_
  refine XL.mkf (vf := []) rfl (vc := [_]) rfl rfl ?_
  refine XL.call hb_slices_IndexFunc_L_seglog_Segment_seglog_Segment rfl rfl (slices_IndexFunc_L_seglog_Segment_seglog_Segment_fn v (.pointer (some ⟨b3, 0, none⟩)) S.c.segs F_seglog_Log_Drop_c1 (blk b3 [.int .i64 n] T_int) (isSeg n) hb_seglog_Log_Drop_c1 (by have := h.n64; omega) (fun x => seglog_Log_Drop_c1_fn x b3 _)) (t3.c <| t0.c tn) ?_
  rintro _ _ ⟨rfl, rfl⟩
  simp only [List.cons_append, List.nil_append]
  refine XL.as rfl rfl ?_
  refine XL.nil ?_
  refine XQ.thenN ?_
  refine XC.seq ?_
  refine XC.seq ?_
  have h64 := h.n64
  have h0 := h.n0
  have hidx := idxZ_range (isSeg n) S.c.segs
  refine XC.reg ?_
  refine XL.mv rfl rfl ?_
  refine XL.bin rfl rfl rfl (bLss) ?_
  refine XL.mv rfl rfl ?_
  refine XL.split 17 rfl (fun hg17 => ?_) (fun hg17 => ?_)
  · refine XL.no rfl rfl ?_
    refine XL.no rfl rfl ?_
    refine XL.no rfl rfl ?_
    refine XL.no rfl rfl ?_
    refine XL.no rfl rfl ?_
    refine XL.no rfl rfl ?_
    refine XL.no rfl rfl ?_
    refine XL.no rfl rfl ?_
    refine XL.no rfl rfl ?_
    refine XL.pkT rfl rfl rfl ?_
    refine XL.nil ?_
    refine XQ.thenN ?_
    refine XC.condT rfl ?_
    refine XC.seq ?_
    refine XC.reg ?_
    refine XL.as rfl rfl ?_
    refine XL.nil ?_
    refine XQ.thenN ?_
    refine XC.ret ?_
    refine XQ.thenR ?_
    exact XQ.ret (.inl rfl) rfl (rC (resT rfl) <| rN) [(dropM S n).2.C b bd] (⟨by unfold dropM; first | (rw [if_pos (by omega)]; rfl) | (rw [if_neg (by omega), if_pos (by omega)]; rfl), rfl⟩) (fun w hs => by unfold dropM; first | (rw [if_pos (by omega)]; exact Sat.shut ⟨v⟩ (Take.sat (t2.c <| t2.c <| t0.c <| t1.c tn) hs)) | (rw [if_neg (by omega), if_pos (by omega)]; exact Sat.shut ⟨v⟩ (Take.sat (t2.c <| t2.c <| t0.c <| t1.c tn) hs)))
  · refine XL.mv rfl rfl ?_
    refine XL.mv rfl rfl ?_
    refine XL.ncP rfl rfl ?_
    refine XL.fa fo_seglog_Log_0 rfl rfl ?_
    refine XL.fa fo_seglog_checkpoint_3 rfl rfl ?_
    refine XL.ld o_L_seglog_Segment rfl (by rfl) rfl ?_
    refine XL.lenS e_L_seglog_Segment rfl rfl ?_
    refine XL.bin rfl rfl rfl (bSub (by omega)) ?_
    refine XL.bin rfl rfl rfl (bEqI) ?_
    refine XL.pkF rfl rfl rfl ?_
    refine XL.nil ?_
    refine XQ.thenN ?_
    refine XC.cond rfl (fun hc1 => ?_) (fun hc1 => ?_)
    · refine XC.seq ?_
      refine XC.reg ?_
      refine XL.as rfl rfl ?_
      refine XL.nil ?_
      refine XQ.thenN ?_
      refine XC.ret ?_
      refine XQ.thenR ?_
      exact XQ.ret (.inl rfl) rfl (rC (resT rfl) <| rN) [(dropM S n).2.C b bd] (⟨by unfold dropM; first | (rw [if_pos (by omega)]; rfl) | (rw [if_neg (by omega), if_pos (by omega)]; rfl), rfl⟩) (fun w hs => by unfold dropM; first | (rw [if_pos (by omega)]; exact Sat.shut ⟨v⟩ (Take.sat (t2.c <| t2.c <| t0.c <| t1.c tn) hs)) | (rw [if_neg (by omega), if_pos (by omega)]; exact Sat.shut ⟨v⟩ (Take.sat (t2.c <| t2.c <| t0.c <| t1.c tn) hs)))
    · refine XC.skip ?_
      refine XQ.thenN ?_
      refine XC.seq ?_
      obtain ⟨j, hj, hjl⟩ := idxZ_nat (p := isSeg n) (l := S.c.segs) (by omega)
      refine XC.re 5 (u := .int .i64 (j : Int)) rfl (congrArg (Value.int .i64) hj) ?_
      have hok : (S.c.nextWith (S.c.segs.eraseIdx j)).ok := nextWith_ok h (by rw [List.length_eraseIdx_of_lt hjl]; omega) (fun x hx => h.x x (List.mem_of_mem_eraseIdx hx))
      refine XC.reg ?_
      refine XL.mv rfl rfl ?_
      refine XL.mv rfl rfl ?_
      refine XL.mv rfl rfl ?_
      refine XL.ncP rfl rfl ?_
      refine XL.fa fo_seglog_Log_0 rfl rfl ?_
      refine XL.fa fo_seglog_checkpoint_3 rfl rfl ?_
      refine XL.ld o_L_seglog_Segment rfl (by rfl) rfl ?_
      refine XL.call hb_slices_Clone_L_seglog_Segment_seglog_Segment rfl rfl (slices_Clone_L_seglog_Segment_seglog_Segment_fn v S.c.segs h.n0 (by omega)) (t0.c tn) ?_
      rintro u _ rfl
      simp only [List.cons_append, List.nil_append]
      refine XL.mv rfl rfl ?_
      refine XL.mv rfl rfl ?_
      refine XL.bin rfl rfl rfl (bAdd (by omega)) ?_
      refine XL.re 38 (u := .int .i64 ((j + 1 : Nat) : Int)) rfl (congrArg (Value.int .i64) (by omega)) ?_
      refine XL.call hb_slices_Delete_L_seglog_Segment_seglog_Segment rfl rfl (slices_Delete_L_seglog_Segment_seglog_Segment_fn u S.c.segs j (by omega)) (t0.c tn) ?_
      rintro u2 _ rfl
      simp only [List.cons_append, List.nil_append]
      refine XL.oneV u2 (fun _ => ?_)
      refine XL.call hb_seglog_Log_next rfl rfl (seglog_Log_next_fn b bd S.pl S.c v u2 (by have := h.s; omega)) (t3.c tn) ?_
      rintro _ _ ⟨rfl, rfl⟩
      simp only [List.cons_append, List.nil_append]
      refine XL.call hb_seglog_Log_save rfl rfl (saveT_fn b bd S (S.c.nextWith (S.c.segs.eraseIdx j)) v u2 h.good h.pl hok (by have := h.d; omega) hq) (t0.c <| t3.c <| t0.c <| t0.c tn) ?_
      rintro _ _ ⟨rfl, rfl⟩
      simp only [List.cons_append, List.nil_append]
      refine XL.as rfl rfl ?_
      refine XL.nil ?_
      refine XQ.thenN ?_
      refine XC.ret ?_
      exact XQ.ret (.inl rfl) rfl (rC (resT rfl) <| rN) [(dropM S n).2.C b bd] (⟨by unfold dropM; rw [if_neg (by omega), if_neg (by omega), hj]; rfl, rfl⟩) (fun w hs => by unfold dropM; rw [if_neg (by omega), if_neg (by omega), hj]; exact Take.sat (t0.c <| t1.c tn) hs)
end Go.Proofs.YthlfbndanknnmaaDoor
