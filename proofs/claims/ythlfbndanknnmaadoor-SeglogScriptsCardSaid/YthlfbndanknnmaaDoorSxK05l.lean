/-
  Package seglog: Append. Printed by mk.py out of spec_k05l.py.
-/
import Derived.Test.YthlfbndanknnmaaDoorSxK05k
namespace Go.Proofs.YthlfbndanknnmaaDoor
open Go Go.Sx

/-- A part's bytes. -/
def partB (boot seq k of : Nat) (t : List UInt8) : List UInt8 := [82] ++ numB boot 8 ++ numB seq 8 ++ numB k 2 ++ numB of 2 ++ numB t.length 2 ++ t
theorem partB_length (boot seq k of : Nat) (t : List UInt8) : (partB boot seq k of t).length = 23 + t.length := by simp [partB, numB_length]; omega
def putParts (D : DiskS) (base boot seq of : Nat) (s : List UInt8) : Nat → DiskS
  | 0 => D
  | k + 1 => (putParts D base boot seq of s k).write (base + k) (partB boot seq k of ((s.drop (233 * k)).take 233))
theorem putParts_len (D : DiskS) (base boot seq of : Nat) (s : List UInt8) : ∀ k, (putParts D base boot seq of s k).now.length = D.now.length ∧ (putParts D base boot seq of s k).queue.length = D.queue.length + k
  | 0 => ⟨rfl, rfl⟩
  | k + 1 => by
    have := putParts_len D base boot seq of s k
    exact ⟨by rw [putParts, write_len, this.1], by simp only [putParts, DiskS.write, List.length_append, List.length_singleton]; omega⟩
theorem putParts_good {D : DiskS} (h : Good D) {base boot seq of : Nat} {s : List UInt8} (hq : D.queue.length ≤ 100) : ∀ k, k ≤ 16 → base + k ≤ D.now.length → Good (putParts D base boot seq of s k)
  | 0, _, _ => h
  | k + 1, hk, hb => by
    have h1 := putParts_len D base boot seq of s k
    exact (putParts_good h hq k (by omega) (by omega)).write (by omega) (by rw [partB_length, List.length_take]; omega) (by omega)
/-- What a log is behind an Append that goes through. -/
def appendS (S : LogS) (s : List UInt8) : LogS :=
  ⟨S.c.more (partsZ s.length).toNat, S.pl, (putParts S.D (2 + 16 * S.c.lst.1 + S.c.lst.2) S.c.boot S.c.seq (partsZ s.length).toNat s (partsZ s.length).toNat).flush⟩
/-- What Append returns: the record, the error; the log. -/
def appendM (S : LogS) (s : List UInt8) : RecS × Int × LogS :=
  if 16 < partsZ s.length then (⟨0, 0, []⟩, 2, S) else if 1152921504606846976 ≤ S.c.seq then (⟨0, 0, []⟩, 21, S)
  else if fitsM S.c s.length = true then (⟨S.c.seq, S.c.lst.1, s⟩, 0, appendS S s)
  else if (openM S).1 ≠ 0 then (⟨0, 0, []⟩, (openM S).1, (openM S).2)
  else (⟨(openM S).2.c.seq, (openM S).2.c.lst.1, s⟩, 0, appendS (openM S).2 s)

theorem take_tl (l : List UInt8) : l.take (l.take 233).length = l.take 233 := by
  rw [List.length_take]
  rcases Nat.le_total 233 l.length with h | h
  · rw [Nat.min_eq_left h]
  · rw [Nat.min_eq_right h, List.take_of_length_le (Nat.le_refl _), List.take_of_length_le h]
theorem rest_tl (s : List UInt8) (k : Nat) : ((s.drop (233 * k)).take (s.drop (233 * k)).length).drop ((s.drop (233 * k)).take 233).length = s.drop (233 * (k + 1)) := by
  rw [List.take_of_length_le (Nat.le_refl _), List.drop_drop, List.length_take, List.length_drop]
  rcases Nat.le_total 233 (s.length - 233 * k) with h | h
  · rw [Nat.min_eq_left h]; congr 1
  · rw [Nat.min_eq_right h, List.drop_of_length_le (by omega), List.drop_of_length_le (by omega)]
theorem partsZ_ge (n : Nat) : 1 ≤ partsZ n ∧ (n : Int) ≤ 233 * partsZ n := by unfold partsZ; omega
theorem leastF_lt {c : Ck} : ∀ {k i : Nat}, leastF c k = some i → i < k
  | 0, i, h => by cases h
  | k + 1, i, h => by
    rw [leastF] at h
    split at h
    · rename_i j hj
      cases h
      have := leastF_lt hj
      omega
    · split at h
      · cases h; omega
      · cases h
theorem seg_room {n i : Nat} (h : i < segsN n) : 18 + 16 * i ≤ n := by unfold segsN at h; omega
theorem saveM_ok {S : LogS} (h : LogOk S.c S.pl S.D) (hq : S.D.queue.length < 1000) {l : List (Nat × Nat)} (h0 : 0 < l.length) (hl : l.length ≤ 64) (hx : ∀ x ∈ l, 18 + 16 * x.1 ≤ S.D.now.length ∧ x.2 ≤ 16) (he : errF (S.c.nextWith l) = 0) :
    saveM S (S.c.nextWith l) = ⟨S.c.nextWith l, 1 - S.pl, (S.D.write (1 - S.pl) (ckB (S.c.nextWith l))).flush⟩ ∧ LogOk (S.c.nextWith l) (1 - S.pl) (S.D.write (1 - S.pl) (ckB (S.c.nextWith l))).flush := by
  have hf : (S.c.nextWith l).fit := by
    unfold errF at he
    split at he
    · assumption
    · omega
  refine ⟨by unfold saveM; rw [if_pos hf], ?_⟩
  have hnl : (S.D.write (1 - S.pl) (ckB (S.c.nextWith l))).flush.now.length = S.D.now.length := write_len _ _ _
  have hd := h.d
  refine ⟨(h.good.write (by omega) (by rw [ckB_length]; show 26 + 2 * l.length ≤ 256; omega) hq).flush, by omega, h0, hl, hf.1, hf.2.1, hf.2.2, by rw [hnl]; exact h.d, fun x hxl => by rw [hnl]; exact hx x hxl⟩
theorem openM_ok {S : LogS} (h : LogOk S.c S.pl S.D) (hq : S.D.queue.length < 1000) (hsn : S.c.segs.length < 64 ∨ leastF S.c (segsN S.D.now.length) = none) (he : (openM S).1 = 0) : LogOk (openM S).2.c (openM S).2.pl (openM S).2.D ∧ (openM S).2.D.queue = [] ∧ (openM S).2.c.lst.2 = 0 := by
  unfold openM at he ⊢
  cases hl : leastF S.c (segsN S.D.now.length) with
  | none => rw [hl] at he; exact absurd he (by simp)
  | some i =>
    rw [hl] at he
    have hi := seg_room (leastF_lt hl)
    have h64 : S.c.segs.length < 64 := hsn.resolve_right (by rw [hl]; simp)
    obtain ⟨e1, e2⟩ := saveM_ok h hq (l := S.c.segs ++ [(i, 0)]) (by simp) (by simp; omega) (fun x hx => by
      simp only [List.mem_append, List.mem_singleton] at hx
      rcases hx with hx | rfl
      · exact h.x x hx
      · exact ⟨hi, by simp⟩) he
    dsimp only
    rw [e1]
    refine ⟨e2, rfl, ?_⟩
    simp [Ck.lst, Ck.nextWith]

theorem seglog_Log_Append_fn (b bd : Nat) (G : LogS) (s : List UInt8) (h : LogOk G.c G.pl G.D) (hq : G.D.queue.length ≤ 100) (hs : s.length ≤ 1000000000000000) (hsn : G.c.segs.length < 64 ∨ leastF G.c (segsN G.D.now.length) = none) :
  Does P F_seglog_Log_Append [.pointer (some ⟨b, 0, none⟩), S s] [G.C b bd] fun u cs => u = .tuple #[.agg (encR (appendM G s).1).toArray, .int .i64 (appendM G s).2.1] ∧ cs = [(appendM G s).2.2.C b bd] := by
  refine Does.mk (N := 152) fn_seglog_Log_Append rfl rfl rfl (fun F => ?_)
  simp only [List.cons_append, List.nil_append]
  have hpg := partsZ_ge s.length
  have hq1 : G.D.queue.length < 1000 := by omega
  refine XC.seq ?_
  refine XC.reg ?_
  refine XL.al z_seglog_Record rfl (fun b4 => ?_)
  refine XL.as rfl rfl ?_
  refine XL.nil ?_
  refine XQ.thenN ?_
  refine XC.seq ?_
  refine XC.block ?_
  refine XC.seq ?_
  refine XC.reg ?_
  refine XL.mv rfl rfl ?_
  refine XL.bin rfl rfl rfl (bEqPF u_P_seglog_Log) ?_
  refine XL.as rfl rfl ?_
  refine XL.nil ?_
  refine XQ.thenN ?_
  refine XC.condF rfl ?_
  refine XC.seq ?_
  refine XC.reg ?_
  refine XL.mv rfl rfl ?_
  refine XL.lenT u_string rfl rfl ?_
  refine XL.call hb_seglog_parts rfl rfl (seglog_parts_fn (s.length : Int) (by omega) (by omega)) (tn) ?_
  rintro _ _ ⟨rfl, rfl⟩
  simp only [List.cons_append, List.nil_append]
  refine XL.bin rfl rfl rfl (bGtr) ?_
  refine XL.as rfl rfl ?_
  refine XL.nil ?_
  refine XQ.thenN ?_
  refine XC.cond rfl (fun hc1 => ?_) (fun hc1 => ?_)
  · refine XC.seq ?_
    refine XC.reg ?_
    refine XL.bd z_seglog_Record p_seglog_Record rfl rfl ?_
    refine XL.stM g_seglog_Record rfl rfl rfl (by rfl) rfl ?_
    refine XL.as rfl rfl ?_
    refine XL.nil ?_
    refine XQ.thenN ?_
    refine XC.ret ?_
    refine XQ.blkR ?_
    refine XQ.thenR ?_
    exact XQ.ret (.inl rfl) rfl (rC (resN g_seglog_Record rfl rfl rfl) <| rC (resT rfl) <| rN) [(appendM G s).2.2.C b bd] (⟨by unfold appendM; rw [if_pos (by omega)]; rfl, rfl⟩) (fun w hs => by unfold appendM; rw [if_pos (by omega)]; exact Take.sat (t1.c <| t1.c tn) hs)
  · refine XC.seq ?_
    refine XC.perm (t1.c <| t0.c tall) ?_
    refine XC.opn t0 ?_
    rintro ⟨v⟩
    dsimp only [List.cons_append, List.nil_append]
    refine XC.oneV v (fun _ => ?_)
    refine XC.reg ?_
    refine XL.mv rfl rfl ?_
    refine XL.ncP rfl rfl ?_
    refine XL.fa fo_seglog_Log_0 rfl rfl ?_
    refine XL.fa fo_seglog_checkpoint_2 rfl rfl ?_
    refine XL.ld o_int rfl (by rfl) rfl ?_
    refine XL.bin rfl rfl rfl (bGeq) ?_
    refine XL.as rfl rfl ?_
    refine XL.nil ?_
    refine XQ.thenN ?_
    refine XC.cond rfl (fun hc2 => ?_) (fun hc2 => ?_)
    · refine XC.seq ?_
      refine XC.reg ?_
      refine XL.bd z_seglog_Record p_seglog_Record rfl rfl ?_
      refine XL.stM g_seglog_Record rfl rfl rfl (by rfl) rfl ?_
      refine XL.as rfl rfl ?_
      refine XL.nil ?_
      refine XQ.thenN ?_
      refine XC.ret ?_
      refine XQ.blkR ?_
      refine XQ.thenR ?_
      exact XQ.ret (.inl rfl) rfl (rC (resN g_seglog_Record rfl rfl rfl) <| rC (resT rfl) <| rN) [(appendM G s).2.2.C b bd] (⟨by unfold appendM; rw [if_neg (by omega), if_pos (by omega)]; rfl, rfl⟩) (fun w hs => by unfold appendM; rw [if_neg (by omega), if_pos (by omega)]; exact Sat.shut ⟨v⟩ (Take.sat (t0.c <| t0.c <| t0.c <| t1.c tn) hs))
    · refine XC.skip ?_
      refine XQ.blkN ?_
      refine XQ.thenN ?_
      refine XC.seq ?_
      refine XC.seq ?_
      refine XC.to (fun w h => (Sat.shut ⟨v⟩ h : Sat [G.C b bd, blk b4 [.int .i64 0, .int .i64 0, S []] T_seglog_Record, F] w)) ?_
      refine XC.reg ?_
      refine XL.mv rfl rfl ?_
      refine XL.mv rfl rfl ?_
      refine XL.lenT u_string rfl rfl ?_
      refine XL.call hb_seglog_Log_Fits rfl rfl (seglog_Log_Fits_fn b bd G.pl G.c G.D (s.length : Int) h) (t0.c tn) ?_
      rintro _ _ ⟨rfl, rfl⟩
      simp only [List.cons_append, List.nil_append]
      refine XL.notT rfl rfl ?_
      refine XL.nil ?_
      refine XQ.thenN ?_
      refine XC.condB rfl (fun hc3 => ?_) (fun hc3 => ?_)
      · refine XC.seq ?_
        refine XC.reg ?_
        refine XL.mv rfl rfl ?_
        refine XL.call hb_seglog_Log_open rfl rfl (seglog_Log_open_fn b bd G h hq1 hsn) (t0.c tn) ?_
        rintro _ _ ⟨rfl, rfl⟩
        simp only [List.cons_append, List.nil_append]
        refine XL.as rfl rfl ?_
        refine XL.nil ?_
        refine XQ.thenN ?_
        refine XC.seq ?_
        refine XC.reg ?_
        refine XL.mv rfl rfl ?_
        refine XL.bin rfl rfl rfl (bNeI) ?_
        refine XL.nil ?_
        refine XQ.thenN ?_
        refine XC.cond rfl (fun hc4 => ?_) (fun hc4 => ?_)
        · refine XC.seq ?_
          refine XC.reg ?_
          refine XL.bd z_seglog_Record p_seglog_Record rfl rfl ?_
          refine XL.mv rfl rfl ?_
          refine XL.stM g_seglog_Record rfl rfl rfl (by rfl) rfl ?_
          refine XL.as rfl rfl ?_
          refine XL.nil ?_
          refine XQ.thenN ?_
          refine XC.ret ?_
          refine XQ.thenR ?_
          exact XQ.ret (.inl rfl) rfl (rC (resN g_seglog_Record rfl rfl rfl) <| rC (resT rfl) <| rN) [(appendM G s).2.2.C b bd] (⟨by unfold appendM; rw [if_neg (by omega), if_neg (by omega), if_neg (by simpa using hc3), if_pos (by omega)]; rfl, rfl⟩) (fun w hs => by unfold appendM; rw [if_neg (by omega), if_neg (by omega), if_neg (by simpa using hc3), if_pos (by omega)]; exact Take.sat (t0.c <| t1.c tn) hs)
        · refine XC.skip ?_
          refine XQ.thenN ?_
          refine XC.seq ?_
          obtain ⟨T, hT, hTok, hTq, hTf⟩ : ∃ T : LogS, T = (openM G).2 ∧ LogOk T.c T.pl T.D ∧ T.D.queue.length ≤ 100 ∧ (T.c.lst.2 : Int) + partsZ s.length ≤ 16 := (by obtain ⟨o1, o2, o3⟩ := openM_ok h hq1 hsn (by omega); exact ⟨_, rfl, o1, by rw [o2]; simp, by rw [o3]; omega⟩)
          refine XC.to (fun w h => (hT ▸ h : Sat [T.C b bd, blk b4 [.int .i64 0, .int .i64 0, S []] T_seglog_Record, F] w)) ?_
          refine XC.opn t0 ?_
          rintro ⟨v⟩
          dsimp only [List.cons_append, List.nil_append]
          refine XC.oneV v (fun _ => ?_)
          refine XC.isAt v 0 hTok.n0 (fun bs _ => ?_)
          have hj : T.c.segs.length - 1 < T.c.segs.length := (by have := hTok.n0; omega)
          have hla := hTok.l
          have hlx := hTok.lx
          have hof : ((partsZ s.length).toNat : Int) = partsZ s.length := (by omega)
          have hTb := hTok.b
          have hTqq := hTok.q
          have hTm := hTok.good.wf.most
          refine XC.reg ?_
          refine XL.mv rfl rfl ?_
          refine XL.ncP rfl rfl ?_
          refine XL.fa fo_seglog_Log_0 rfl rfl ?_
          refine XL.ldM g_seglog_checkpoint rfl (by rfl) rfl ?_
          refine XL.call hb_seglog_checkpoint_last rfl rfl (seglog_checkpoint_last_fn T.c v bs hTok.n0 hTok.n64) (t2.c tn) ?_
          rintro _ _ ⟨rfl, rfl⟩
          simp only [List.cons_append, List.nil_append]
          refine XL.as rfl rfl ?_
          refine XL.nil ?_
          refine XQ.thenN ?_
          refine XC.seq ?_
          refine XC.reg ?_
          refine XL.mv rfl rfl ?_
          refine XL.lenT u_string rfl rfl ?_
          refine XL.call hb_seglog_parts rfl rfl (seglog_parts_fn (s.length : Int) (by omega) (by omega)) (tn) ?_
          rintro _ _ ⟨rfl, rfl⟩
          simp only [List.cons_append, List.nil_append]
          refine XL.as rfl rfl ?_
          refine XL.nil ?_
          refine XQ.thenN ?_
          refine XC.seq ?_
          refine XC.re 8 (u := .int .i64 ((partsZ s.length).toNat : Int)) rfl (congrArg (Value.int .i64) hof.symm) ?_
          refine XC.reg ?_
          refine XL.mv rfl rfl ?_
          refine XL.as rfl rfl ?_
          refine XL.nil ?_
          refine XQ.thenN ?_
          refine XC.seq ?_
          refine XC.seq ?_
          refine XC.reg ?_
          refine XL.mv rfl rfl ?_
          refine XL.mv rfl rfl ?_
          refine XL.nil ?_
          refine XQ.thenN ?_
          refine XC.block ?_
          have hgo : ∀ k, k ≤ (partsZ s.length).toNat → Good (putParts T.D (2 + 16 * T.c.lst.1 + T.c.lst.2) T.c.boot T.c.seq (partsZ s.length).toNat s k) := fun k hk => putParts_good hTok.good hTq k (by omega) (by omega)
          have hle : ∀ k, (putParts T.D (2 + 16 * T.c.lst.1 + T.c.lst.2) T.c.boot T.c.seq (partsZ s.length).toNat s k).now.length = T.D.now.length ∧ (putParts T.D (2 + 16 * T.c.lst.1 + T.c.lst.2) T.c.boot T.c.seq (partsZ s.length).toNat s k).queue.length = T.D.queue.length + k := fun k => putParts_len _ _ _ _ _ _ _
          refine XC.loop (ι := Nat) (fun k => [(0, .pointer (some ⟨b, 0, none⟩)), (1, S s), (4, .pointer (some ⟨b4, 0, none⟩)), (7, .pointer (some ⟨bs, (T.c.segs.length - 1) * 2, none⟩)), (8, .int .i64 ((partsZ s.length).toNat : Int)), (9, S (s.drop (233 * k))), (53, .int .i64 ((partsZ s.length).toNat : Int)), (54, .int .i64 (k : Int))])
            (fun k => [logB b T.c v bd T.pl, diskC bd (putParts T.D (2 + 16 * T.c.lst.1 + T.c.lst.2) T.c.boot T.c.seq (partsZ s.length).toNat s k), T.c.sl v, blk b4 [.int .i64 0, .int .i64 0, S []] T_seglog_Record, F]) (fun k => k ≤ (partsZ s.length).toNat) (fun k => (partsZ s.length).toNat - k) 0 (Nat.zero_le _) ⟨rfl, rfl, rfl, rfl, rfl, rfl, rfl, rfl, trivial⟩ (fun w h => Take.sat (t1.c <| t1.c <| t0.c <| t0.c tn) h) (fun k hk => ?_)
          refine XC.seq ?_
          refine XC.reg ?_
          refine XL.bin rfl rfl rfl (bLss) ?_
          refine XL.nil ?_
          refine XQ.thenN ?_
          refine XC.seq ?_
          refine XC.cond rfl (fun hc5 => ?_) (fun hc5 => ?_)
          · have hkl : k < (partsZ s.length).toNat := by omega
            have hlk := hle k
            have hdl : (s.drop (233 * k)).length = s.length - 233 * k := List.length_drop
            have htl : ((s.drop (233 * k)).take 233).length = min 233 (s.length - 233 * k) := by rw [List.length_take, hdl]
            refine XC.skip ?_
            refine XQ.thenN ?_
            refine XC.seq ?_
            refine XC.block ?_
            refine XC.seq ?_
            refine XC.reg ?_
            refine XL.mv rfl rfl ?_
            refine XL.as rfl rfl ?_
            refine XL.nil ?_
            refine XQ.thenN ?_
            refine XC.seq ?_
            refine XC.reg ?_
            refine XL.mv rfl rfl ?_
            refine XL.lenT u_string rfl rfl ?_
            refine XL.mn rfl rfl rfl ?_
            refine XL.as rfl rfl ?_
            refine XL.nil ?_
            refine XQ.thenN ?_
            refine XC.seq ?_
            refine XC.re 11 (u := .int .i64 (((s.drop (233 * k)).take 233).length : Int)) rfl (congrArg (Value.int .i64) (by rw [htl, hdl]; omega)) ?_
            refine XC.drw (.q 0 <| .q 1 <| .q 2 <| .q 3 <| .q 4 <| .q 5 <| .q 6 <| .q 7 <| .q 8 <| .q 9 <| .q 10 <| .q 11 <| .q 12 <| .q 13 <| .q 14 <| .q 15 <| .q 16 <| .q 17 <| .q 18 <| .q 19 <| .q 20 <| .q 21 <| .q 22 <| .q 23 <| .q 24 <| .q 25 <| .q 26 <| .e 27 <| .done) mixed (by kernel_rfl) rfl ?_
            refine JP.qq rfl rfl rfl (XL.mv rfl rfl XL.qd) ?_
            refine JP.qq rfl rfl rfl (XL.ncP rfl rfl XL.qd) ?_
            refine JP.qq rfl rfl rfl (XL.fa fo_seglog_Log_0 rfl rfl XL.qd) ?_
            refine JP.qq rfl rfl rfl (XL.fa fo_seglog_checkpoint_1 rfl rfl XL.qd) ?_
            refine JP.qq rfl rfl rfl (XL.ld o_int rfl (by rfl) rfl XL.qd) ?_
            refine JP.qq rfl rfl rfl (XL.call hb_seglog_number rfl rfl (seglog_number_fn T.c.boot 8 (by omega) (by omega)) (tn) (by rintro _ _ ⟨rfl, rfl⟩; exact XL.qdp (fun w h => h))) ?_
            refine JP.qq rfl rfl rfl (XL.bin rfl rfl rfl (bAddS (by first | omega | (simp [numB_length] <;> omega))) XL.qd) ?_
            refine JP.qq rfl rfl rfl (XL.mv rfl rfl XL.qd) ?_
            refine JP.qq rfl rfl rfl (XL.ncP rfl rfl XL.qd) ?_
            refine JP.qq rfl rfl rfl (XL.fa fo_seglog_Log_0 rfl rfl XL.qd) ?_
            refine JP.qq rfl rfl rfl (XL.fa fo_seglog_checkpoint_2 rfl rfl XL.qd) ?_
            refine JP.qq rfl rfl rfl (XL.ld o_int rfl (by rfl) rfl XL.qd) ?_
            refine JP.qq rfl rfl rfl (XL.call hb_seglog_number rfl rfl (seglog_number_fn T.c.seq 8 (by omega) (by omega)) (tn) (by rintro _ _ ⟨rfl, rfl⟩; exact XL.qdp (fun w h => h))) ?_
            refine JP.qq rfl rfl rfl (XL.bin rfl rfl rfl (bAddS (by first | omega | (simp [numB_length] <;> omega))) XL.qd) ?_
            refine JP.qq rfl rfl rfl (XL.mv rfl rfl XL.qd) ?_
            refine JP.qq rfl rfl rfl (XL.call hb_seglog_number rfl rfl (seglog_number_fn k 2 (by omega) (by omega)) (tn) (by rintro _ _ ⟨rfl, rfl⟩; exact XL.qdp (fun w h => h))) ?_
            refine JP.qq rfl rfl rfl (XL.bin rfl rfl rfl (bAddS (by first | omega | (simp [numB_length] <;> omega))) XL.qd) ?_
            refine JP.qq rfl rfl rfl (XL.mv rfl rfl XL.qd) ?_
            refine JP.qq rfl rfl rfl (XL.call hb_seglog_number rfl rfl (seglog_number_fn (partsZ s.length).toNat 2 (by omega) (by omega)) (tn) (by rintro _ _ ⟨rfl, rfl⟩; exact XL.qdp (fun w h => h))) ?_
            refine JP.qq rfl rfl rfl (XL.bin rfl rfl rfl (bAddS (by first | omega | (simp [numB_length] <;> omega))) XL.qd) ?_
            refine JP.qq rfl rfl rfl (XL.mv rfl rfl XL.qd) ?_
            refine JP.qq rfl rfl rfl (XL.call hb_seglog_number rfl rfl (seglog_number_fn (((s.drop (233 * k)).take 233).length) 2 (by omega) (by omega)) (tn) (by rintro _ _ ⟨rfl, rfl⟩; exact XL.qdp (fun w h => h))) ?_
            refine JP.qq rfl rfl rfl (XL.bin rfl rfl rfl (bAddS (by first | omega | (simp [numB_length] <;> omega))) XL.qd) ?_
            refine JP.qq rfl rfl rfl (XL.mv rfl rfl XL.qd) ?_
            refine JP.qq rfl rfl rfl (XL.mv rfl rfl XL.qd) ?_
            refine JP.qq rfl rfl rfl (XL.slT 0 ((s.drop (233 * k)).take 233).length u_string rfl rfl ⟨_, rfl⟩ (by omega) (by first | omega | (simp [numB_length] <;> omega)) rfl XL.qd) ?_
            refine JP.qq rfl rfl rfl (XL.bin rfl rfl rfl (bAddS (by first | omega | (simp [numB_length] <;> omega))) XL.qd) ?_
            refine JP.ee rfl ?_
            refine XL.as rfl rfl ?_
            refine XL.ed ?_
            refine JP.done ?_
            refine XQ.thenN ?_
            refine XC.seq ?_
            refine XC.re 12 (u := S (partB T.c.boot T.c.seq k (partsZ s.length).toNat ((s.drop (233 * k)).take 233))) rfl (by rw [take_tl]; rfl) ?_
            refine XC.reg ?_
            refine XL.mv rfl rfl ?_
            refine XL.mv rfl rfl ?_
            refine XL.slT ((s.drop (233 * k)).take 233).length (s.drop (233 * k)).length u_string rfl ⟨_, rfl⟩ rfl (by first | omega | (simp [numB_length] <;> omega)) (by omega) rfl ?_
            refine XL.as rfl rfl ?_
            refine XL.nil ?_
            refine XQ.thenN ?_
            refine XC.seq ?_
            refine XC.re 9 (u := S (s.drop (233 * (k + 1)))) rfl (by rw [rest_tl]) ?_
            refine XC.drw (.q 0 <| .q 1 <| .q 2 <| .q 3 <| .q 4 <| .q 5 <| .q 6 <| .q 7 <| .q 8 <| .q 9 <| .q 10 <| .q 11 <| .q 12 <| .q 13 <| .q 14 <| .q 15 <| .q 16 <| .q 17 <| .e 18 <| .e 19 <| .done) mixed (by kernel_rfl) rfl ?_
            refine JP.qq rfl rfl rfl (XL.mv rfl rfl XL.qd) ?_
            refine JP.qq rfl rfl rfl (XL.ncP rfl rfl XL.qd) ?_
            refine JP.qq rfl rfl rfl (XL.fa fo_seglog_Log_1 rfl rfl XL.qd) ?_
            refine JP.qq rfl rfl rfl (XL.ld o_P_sector_Disk rfl (by rfl) rfl XL.qd) ?_
            refine JP.qq rfl rfl rfl (XL.mv rfl rfl XL.qd) ?_
            refine JP.qq rfl rfl rfl (XL.ncP rfl rfl XL.qd) ?_
            refine JP.qq rfl rfl rfl (XL.fa fo_seglog_Segment_0 rfl rfl XL.qd) ?_
            refine JP.qq rfl rfl rfl (XL.ldSf (o := 0) o_int rfl hj (by rw [hla]; rfl) rfl XL.qd) ?_
            refine JP.qq rfl rfl rfl (XL.bin rfl rfl rfl (bMul (by omega)) XL.qd) ?_
            refine JP.qq rfl rfl rfl (XL.bin rfl rfl rfl (bAdd (by omega)) XL.qd) ?_
            refine JP.qq rfl rfl rfl (XL.mv rfl rfl XL.qd) ?_
            refine JP.qq rfl rfl rfl (XL.ncP rfl rfl XL.qd) ?_
            refine JP.qq rfl rfl rfl (XL.fa fo_seglog_Segment_1 rfl rfl XL.qd) ?_
            refine JP.qq rfl rfl rfl (XL.ldSf (o := 1) o_int rfl hj (by rw [hla]; rfl) rfl XL.qd) ?_
            refine JP.qq rfl rfl rfl (XL.bin rfl rfl rfl (bAdd (by omega)) XL.qd) ?_
            refine JP.qq rfl rfl rfl (XL.mv rfl rfl XL.qd) ?_
            refine JP.qq rfl rfl rfl (XL.bin rfl rfl rfl (bAdd (by omega)) (XL.re 106 (u := .int .i64 ((2 + 16 * T.c.lst.1 + T.c.lst.2 + k : Nat) : Int)) rfl (congrArg (Value.int .i64) (by omega)) XL.qd)) ?_
            refine JP.qq rfl rfl rfl (XL.mv rfl rfl XL.qd) ?_
            refine JP.ee rfl ?_
            refine XL.call hb_sector_Disk_Write rfl rfl (sector_Disk_Write_fn bd (putParts T.D (2 + 16 * T.c.lst.1 + T.c.lst.2) T.c.boot T.c.seq (partsZ s.length).toNat s k) (2 + 16 * T.c.lst.1 + T.c.lst.2 + k) (partB T.c.boot T.c.seq k (partsZ s.length).toNat ((s.drop (233 * k)).take 233)) (by omega) (by rw [partB_length]; omega) (by omega) (by omega) (hgo k hk).off (hgo k hk).left) (t1.c tn) ?_
            rintro _ _ ⟨rfl, rfl⟩
            simp only [List.cons_append, List.nil_append]
            refine XL.ed ?_
            refine JP.ee rfl ?_
            refine XL.as rfl rfl ?_
            refine XL.ed ?_
            refine JP.done ?_
            refine XQ.thenN ?_
            refine XC.seq ?_
            refine XC.reg ?_
            refine XL.mv rfl rfl ?_
            refine XL.bin rfl rfl rfl (bNeI) ?_
            refine XL.nil ?_
            refine XQ.thenN ?_
            refine XC.condF' rfl (decide_eq_false (by omega)) ?_
            refine XC.skip ?_
            refine XQ.blkN ?_
            refine XQ.thenN ?_
            refine XC.reg ?_
            refine XL.bin rfl rfl rfl (bAdd (by omega)) ?_
            refine XL.mv rfl rfl ?_
            refine XL.nil ?_
            exact XQ.again (k + 1) (by omega) (by omega) ⟨rfl, rfl, rfl, rfl, rfl, rfl, rfl, rfl, trivial⟩ (fun w h => Take.sat (t1.c <| t0.c tall) h)
          · have hke : k = (partsZ s.length).toNat := by omega
            refine XC.exit ?_
            refine XQ.thenE ?_
            refine XQ.thenE ?_
            refine XQ.blkE ?_
            refine XQ.thenN ?_
            refine XC.seq ?_
            refine XC.seq ?_
            refine XC.reg ?_
            refine XL.mv rfl rfl ?_
            refine XL.ncP rfl rfl ?_
            refine XL.fa fo_seglog_Log_1 rfl rfl ?_
            refine XL.ld o_P_sector_Disk rfl (by rfl) rfl ?_
            refine XL.call hb_sector_Disk_Flush rfl rfl (sector_Disk_Flush_fn bd (putParts T.D (2 + 16 * T.c.lst.1 + T.c.lst.2) T.c.boot T.c.seq (partsZ s.length).toNat s k) (hgo k hk).wf (hgo k hk).off (hgo k hk).left) (t1.c tn) ?_
            rintro _ _ ⟨rfl, rfl⟩
            simp only [List.cons_append, List.nil_append]
            refine XL.as rfl rfl ?_
            refine XL.nil ?_
            refine XQ.thenN ?_
            refine XC.seq ?_
            refine XC.reg ?_
            refine XL.mv rfl rfl ?_
            refine XL.bin rfl rfl rfl (bNeI) ?_
            refine XL.nil ?_
            refine XQ.thenN ?_
            refine XC.condF' rfl (decide_eq_false (by omega)) ?_
            refine XC.skip ?_
            refine XQ.thenN ?_
            refine XC.seq ?_
            refine XC.reg ?_
            refine XL.mv rfl rfl ?_
            refine XL.ncP rfl rfl ?_
            refine XL.fa fo_seglog_Segment_1 rfl rfl ?_
            refine XL.ldSf (o := 1) o_int rfl hj (by rw [hla]; rfl) rfl ?_
            refine XL.mv rfl rfl ?_
            refine XL.bin rfl rfl rfl (bAdd (by omega)) ?_
            refine XL.ncP rfl rfl ?_
            refine XL.fa fo_seglog_Segment_1 rfl rfl ?_
            refine XL.stSf (T.c.lst.1, T.c.lst.2 + (partsZ s.length).toNat) o_int rfl rfl hj (by decide) (by rw [hla]; rfl) rfl ?_
            refine XL.nil ?_
            refine XQ.thenN ?_
            refine XC.seq ?_
            refine XC.reg ?_
            refine XL.mv rfl rfl ?_
            refine XL.ncP rfl rfl ?_
            refine XL.fa fo_seglog_Log_0 rfl rfl ?_
            refine XL.fa fo_seglog_checkpoint_2 rfl rfl ?_
            refine XL.ld o_int rfl (by rfl) rfl ?_
            refine XL.bin rfl rfl rfl (bAdd (by omega)) ?_
            refine XL.ncP rfl rfl ?_
            refine XL.fa fo_seglog_Log_0 rfl rfl ?_
            refine XL.fa fo_seglog_checkpoint_2 rfl rfl ?_
            refine XL.st o_int rfl rfl rfl ?_
            refine XL.nil ?_
            refine XQ.thenN ?_
            refine XC.seq ?_
            refine XC.drw (.q 0 <| .q 1 <| .q 2 <| .q 3 <| .q 4 <| .q 5 <| .q 6 <| .q 7 <| .q 8 <| .q 9 <| .q 10 <| .q 11 <| .e 12 <| .e 13 <| .done) mixed (by kernel_rfl) rfl ?_
            refine JP.qq rfl rfl rfl (XL.mv rfl rfl XL.qd) ?_
            refine JP.qq rfl rfl rfl (XL.ncP rfl rfl XL.qd) ?_
            refine JP.qq rfl rfl rfl (XL.fa fo_seglog_Log_0 rfl rfl XL.qd) ?_
            refine JP.qq rfl rfl rfl (XL.fa fo_seglog_checkpoint_2 rfl rfl XL.qd) ?_
            refine JP.qq rfl rfl rfl (XL.ld o_int rfl (by rfl) rfl XL.qd) ?_
            refine JP.qq rfl rfl rfl (XL.bin rfl rfl rfl (bSub (by omega)) (XL.re 145 (u := .int .i64 (T.c.seq : Int)) rfl (congrArg (Value.int .i64) (by omega)) XL.qd)) ?_
            refine JP.qq rfl rfl rfl (XL.mv rfl rfl XL.qd) ?_
            refine JP.qq rfl rfl rfl (XL.ncP rfl rfl XL.qd) ?_
            refine JP.qq rfl rfl rfl (XL.fa fo_seglog_Segment_0 rfl rfl XL.qd) ?_
            refine JP.qq rfl rfl rfl (XL.ldSf (o := 0) o_int rfl (by rw [List.length_set]; exact hj) (by rw [List.getElem_set_self]; rfl) rfl XL.qd) ?_
            refine JP.qq rfl rfl rfl (XL.mv rfl rfl XL.qd) ?_
            refine JP.qq rfl rfl rfl (XL.bd z_seglog_Record p_seglog_Record rfl rfl XL.qd) ?_
            refine JP.ee rfl ?_
            refine XL.stM g_seglog_Record rfl rfl rfl (by rfl) rfl ?_
            refine XL.edn ?_
            refine JP.ee rfl ?_
            refine XL.as rfl rfl ?_
            refine XL.ed ?_
            refine JP.done ?_
            refine XQ.thenN ?_
            refine XC.ret ?_
            have hap : appendM G s = (⟨T.c.seq, T.c.lst.1, s⟩, 0, appendS T s) := by unfold appendM; rw [if_neg (by omega), if_neg (by omega), if_neg (by simpa using hc3), if_neg (by omega), hT]
            exact XQ.ret (.inl rfl) rfl (rC (resN g_seglog_Record rfl rfl rfl) <| rC (resT rfl) <| rN) [(appendS T s).C b bd] (⟨by rw [hap]; rfl, by rw [hap]⟩) (fun w hs => by rw [hke] at hs; exact Sat.shut ⟨v⟩ (Take.sat (t1.c <| t0.c <| t0.c <| t1.c tn) hs))
      · refine XC.skip ?_
        refine XQ.thenN ?_
        refine XC.seq ?_
        obtain ⟨T, hT, hTok, hTq, hTf⟩ : ∃ T : LogS, T = G ∧ LogOk T.c T.pl T.D ∧ T.D.queue.length ≤ 100 ∧ (T.c.lst.2 : Int) + partsZ s.length ≤ 16 := (by have hf : fitsM G.c s.length = true := (by simpa using hc3); unfold fitsM at hf; simp only [Bool.and_eq_true, decide_eq_true_eq] at hf; exact ⟨_, rfl, h, hq, hf.2.2⟩)
        refine XC.to (fun w h => (hT ▸ h : Sat [T.C b bd, blk b4 [.int .i64 0, .int .i64 0, S []] T_seglog_Record, F] w)) ?_
        refine XC.opn t0 ?_
        rintro ⟨v⟩
        dsimp only [List.cons_append, List.nil_append]
        refine XC.oneV v (fun _ => ?_)
        refine XC.isAt v 0 hTok.n0 (fun bs _ => ?_)
        have hj : T.c.segs.length - 1 < T.c.segs.length := (by have := hTok.n0; omega)
        have hla := hTok.l
        have hlx := hTok.lx
        have hof : ((partsZ s.length).toNat : Int) = partsZ s.length := (by omega)
        have hTb := hTok.b
        have hTqq := hTok.q
        have hTm := hTok.good.wf.most
        refine XC.reg ?_
        refine XL.mv rfl rfl ?_
        refine XL.ncP rfl rfl ?_
        refine XL.fa fo_seglog_Log_0 rfl rfl ?_
        refine XL.ldM g_seglog_checkpoint rfl (by rfl) rfl ?_
        refine XL.call hb_seglog_checkpoint_last rfl rfl (seglog_checkpoint_last_fn T.c v bs hTok.n0 hTok.n64) (t2.c tn) ?_
        rintro _ _ ⟨rfl, rfl⟩
        simp only [List.cons_append, List.nil_append]
        refine XL.as rfl rfl ?_
        refine XL.nil ?_
        refine XQ.thenN ?_
        refine XC.seq ?_
        refine XC.reg ?_
        refine XL.mv rfl rfl ?_
        refine XL.lenT u_string rfl rfl ?_
        refine XL.call hb_seglog_parts rfl rfl (seglog_parts_fn (s.length : Int) (by omega) (by omega)) (tn) ?_
        rintro _ _ ⟨rfl, rfl⟩
        simp only [List.cons_append, List.nil_append]
        refine XL.as rfl rfl ?_
        refine XL.nil ?_
        refine XQ.thenN ?_
        refine XC.seq ?_
        refine XC.re 8 (u := .int .i64 ((partsZ s.length).toNat : Int)) rfl (congrArg (Value.int .i64) hof.symm) ?_
        refine XC.reg ?_
        refine XL.mv rfl rfl ?_
        refine XL.as rfl rfl ?_
        refine XL.nil ?_
        refine XQ.thenN ?_
        refine XC.seq ?_
        refine XC.seq ?_
        refine XC.reg ?_
        refine XL.mv rfl rfl ?_
        refine XL.mv rfl rfl ?_
        refine XL.nil ?_
        refine XQ.thenN ?_
        refine XC.block ?_
        have hgo : ∀ k, k ≤ (partsZ s.length).toNat → Good (putParts T.D (2 + 16 * T.c.lst.1 + T.c.lst.2) T.c.boot T.c.seq (partsZ s.length).toNat s k) := fun k hk => putParts_good hTok.good hTq k (by omega) (by omega)
        have hle : ∀ k, (putParts T.D (2 + 16 * T.c.lst.1 + T.c.lst.2) T.c.boot T.c.seq (partsZ s.length).toNat s k).now.length = T.D.now.length ∧ (putParts T.D (2 + 16 * T.c.lst.1 + T.c.lst.2) T.c.boot T.c.seq (partsZ s.length).toNat s k).queue.length = T.D.queue.length + k := fun k => putParts_len _ _ _ _ _ _ _
        refine XC.loop (ι := Nat) (fun k => [(0, .pointer (some ⟨b, 0, none⟩)), (1, S s), (4, .pointer (some ⟨b4, 0, none⟩)), (7, .pointer (some ⟨bs, (T.c.segs.length - 1) * 2, none⟩)), (8, .int .i64 ((partsZ s.length).toNat : Int)), (9, S (s.drop (233 * k))), (53, .int .i64 ((partsZ s.length).toNat : Int)), (54, .int .i64 (k : Int))])
          (fun k => [logB b T.c v bd T.pl, diskC bd (putParts T.D (2 + 16 * T.c.lst.1 + T.c.lst.2) T.c.boot T.c.seq (partsZ s.length).toNat s k), T.c.sl v, blk b4 [.int .i64 0, .int .i64 0, S []] T_seglog_Record, F]) (fun k => k ≤ (partsZ s.length).toNat) (fun k => (partsZ s.length).toNat - k) 0 (Nat.zero_le _) ⟨rfl, rfl, rfl, rfl, rfl, rfl, rfl, rfl, trivial⟩ (fun w h => Take.sat (t1.c <| t1.c <| t0.c <| t0.c tn) h) (fun k hk => ?_)
        refine XC.seq ?_
        refine XC.reg ?_
        refine XL.bin rfl rfl rfl (bLss) ?_
        refine XL.nil ?_
        refine XQ.thenN ?_
        refine XC.seq ?_
        refine XC.cond rfl (fun hc5 => ?_) (fun hc5 => ?_)
        · have hkl : k < (partsZ s.length).toNat := by omega
          have hlk := hle k
          have hdl : (s.drop (233 * k)).length = s.length - 233 * k := List.length_drop
          have htl : ((s.drop (233 * k)).take 233).length = min 233 (s.length - 233 * k) := by rw [List.length_take, hdl]
          refine XC.skip ?_
          refine XQ.thenN ?_
          refine XC.seq ?_
          refine XC.block ?_
          refine XC.seq ?_
          refine XC.reg ?_
          refine XL.mv rfl rfl ?_
          refine XL.as rfl rfl ?_
          refine XL.nil ?_
          refine XQ.thenN ?_
          refine XC.seq ?_
          refine XC.reg ?_
          refine XL.mv rfl rfl ?_
          refine XL.lenT u_string rfl rfl ?_
          refine XL.mn rfl rfl rfl ?_
          refine XL.as rfl rfl ?_
          refine XL.nil ?_
          refine XQ.thenN ?_
          refine XC.seq ?_
          refine XC.re 11 (u := .int .i64 (((s.drop (233 * k)).take 233).length : Int)) rfl (congrArg (Value.int .i64) (by rw [htl, hdl]; omega)) ?_
          refine XC.drw (.q 0 <| .q 1 <| .q 2 <| .q 3 <| .q 4 <| .q 5 <| .q 6 <| .q 7 <| .q 8 <| .q 9 <| .q 10 <| .q 11 <| .q 12 <| .q 13 <| .q 14 <| .q 15 <| .q 16 <| .q 17 <| .q 18 <| .q 19 <| .q 20 <| .q 21 <| .q 22 <| .q 23 <| .q 24 <| .q 25 <| .q 26 <| .e 27 <| .done) mixed (by kernel_rfl) rfl ?_
          refine JP.qq rfl rfl rfl (XL.mv rfl rfl XL.qd) ?_
          refine JP.qq rfl rfl rfl (XL.ncP rfl rfl XL.qd) ?_
          refine JP.qq rfl rfl rfl (XL.fa fo_seglog_Log_0 rfl rfl XL.qd) ?_
          refine JP.qq rfl rfl rfl (XL.fa fo_seglog_checkpoint_1 rfl rfl XL.qd) ?_
          refine JP.qq rfl rfl rfl (XL.ld o_int rfl (by rfl) rfl XL.qd) ?_
          refine JP.qq rfl rfl rfl (XL.call hb_seglog_number rfl rfl (seglog_number_fn T.c.boot 8 (by omega) (by omega)) (tn) (by rintro _ _ ⟨rfl, rfl⟩; exact XL.qdp (fun w h => h))) ?_
          refine JP.qq rfl rfl rfl (XL.bin rfl rfl rfl (bAddS (by first | omega | (simp [numB_length] <;> omega))) XL.qd) ?_
          refine JP.qq rfl rfl rfl (XL.mv rfl rfl XL.qd) ?_
          refine JP.qq rfl rfl rfl (XL.ncP rfl rfl XL.qd) ?_
          refine JP.qq rfl rfl rfl (XL.fa fo_seglog_Log_0 rfl rfl XL.qd) ?_
          refine JP.qq rfl rfl rfl (XL.fa fo_seglog_checkpoint_2 rfl rfl XL.qd) ?_
          refine JP.qq rfl rfl rfl (XL.ld o_int rfl (by rfl) rfl XL.qd) ?_
          refine JP.qq rfl rfl rfl (XL.call hb_seglog_number rfl rfl (seglog_number_fn T.c.seq 8 (by omega) (by omega)) (tn) (by rintro _ _ ⟨rfl, rfl⟩; exact XL.qdp (fun w h => h))) ?_
          refine JP.qq rfl rfl rfl (XL.bin rfl rfl rfl (bAddS (by first | omega | (simp [numB_length] <;> omega))) XL.qd) ?_
          refine JP.qq rfl rfl rfl (XL.mv rfl rfl XL.qd) ?_
          refine JP.qq rfl rfl rfl (XL.call hb_seglog_number rfl rfl (seglog_number_fn k 2 (by omega) (by omega)) (tn) (by rintro _ _ ⟨rfl, rfl⟩; exact XL.qdp (fun w h => h))) ?_
          refine JP.qq rfl rfl rfl (XL.bin rfl rfl rfl (bAddS (by first | omega | (simp [numB_length] <;> omega))) XL.qd) ?_
          refine JP.qq rfl rfl rfl (XL.mv rfl rfl XL.qd) ?_
          refine JP.qq rfl rfl rfl (XL.call hb_seglog_number rfl rfl (seglog_number_fn (partsZ s.length).toNat 2 (by omega) (by omega)) (tn) (by rintro _ _ ⟨rfl, rfl⟩; exact XL.qdp (fun w h => h))) ?_
          refine JP.qq rfl rfl rfl (XL.bin rfl rfl rfl (bAddS (by first | omega | (simp [numB_length] <;> omega))) XL.qd) ?_
          refine JP.qq rfl rfl rfl (XL.mv rfl rfl XL.qd) ?_
          refine JP.qq rfl rfl rfl (XL.call hb_seglog_number rfl rfl (seglog_number_fn (((s.drop (233 * k)).take 233).length) 2 (by omega) (by omega)) (tn) (by rintro _ _ ⟨rfl, rfl⟩; exact XL.qdp (fun w h => h))) ?_
          refine JP.qq rfl rfl rfl (XL.bin rfl rfl rfl (bAddS (by first | omega | (simp [numB_length] <;> omega))) XL.qd) ?_
          refine JP.qq rfl rfl rfl (XL.mv rfl rfl XL.qd) ?_
          refine JP.qq rfl rfl rfl (XL.mv rfl rfl XL.qd) ?_
          refine JP.qq rfl rfl rfl (XL.slT 0 ((s.drop (233 * k)).take 233).length u_string rfl rfl ⟨_, rfl⟩ (by omega) (by first | omega | (simp [numB_length] <;> omega)) rfl XL.qd) ?_
          refine JP.qq rfl rfl rfl (XL.bin rfl rfl rfl (bAddS (by first | omega | (simp [numB_length] <;> omega))) XL.qd) ?_
          refine JP.ee rfl ?_
          refine XL.as rfl rfl ?_
          refine XL.ed ?_
          refine JP.done ?_
          refine XQ.thenN ?_
          refine XC.seq ?_
          refine XC.re 12 (u := S (partB T.c.boot T.c.seq k (partsZ s.length).toNat ((s.drop (233 * k)).take 233))) rfl (by rw [take_tl]; rfl) ?_
          refine XC.reg ?_
          refine XL.mv rfl rfl ?_
          refine XL.mv rfl rfl ?_
          refine XL.slT ((s.drop (233 * k)).take 233).length (s.drop (233 * k)).length u_string rfl ⟨_, rfl⟩ rfl (by first | omega | (simp [numB_length] <;> omega)) (by omega) rfl ?_
          refine XL.as rfl rfl ?_
          refine XL.nil ?_
          refine XQ.thenN ?_
          refine XC.seq ?_
          refine XC.re 9 (u := S (s.drop (233 * (k + 1)))) rfl (by rw [rest_tl]) ?_
          refine XC.drw (.q 0 <| .q 1 <| .q 2 <| .q 3 <| .q 4 <| .q 5 <| .q 6 <| .q 7 <| .q 8 <| .q 9 <| .q 10 <| .q 11 <| .q 12 <| .q 13 <| .q 14 <| .q 15 <| .q 16 <| .q 17 <| .e 18 <| .e 19 <| .done) mixed (by kernel_rfl) rfl ?_
          refine JP.qq rfl rfl rfl (XL.mv rfl rfl XL.qd) ?_
          refine JP.qq rfl rfl rfl (XL.ncP rfl rfl XL.qd) ?_
          refine JP.qq rfl rfl rfl (XL.fa fo_seglog_Log_1 rfl rfl XL.qd) ?_
          refine JP.qq rfl rfl rfl (XL.ld o_P_sector_Disk rfl (by rfl) rfl XL.qd) ?_
          refine JP.qq rfl rfl rfl (XL.mv rfl rfl XL.qd) ?_
          refine JP.qq rfl rfl rfl (XL.ncP rfl rfl XL.qd) ?_
          refine JP.qq rfl rfl rfl (XL.fa fo_seglog_Segment_0 rfl rfl XL.qd) ?_
          refine JP.qq rfl rfl rfl (XL.ldSf (o := 0) o_int rfl hj (by rw [hla]; rfl) rfl XL.qd) ?_
          refine JP.qq rfl rfl rfl (XL.bin rfl rfl rfl (bMul (by omega)) XL.qd) ?_
          refine JP.qq rfl rfl rfl (XL.bin rfl rfl rfl (bAdd (by omega)) XL.qd) ?_
          refine JP.qq rfl rfl rfl (XL.mv rfl rfl XL.qd) ?_
          refine JP.qq rfl rfl rfl (XL.ncP rfl rfl XL.qd) ?_
          refine JP.qq rfl rfl rfl (XL.fa fo_seglog_Segment_1 rfl rfl XL.qd) ?_
          refine JP.qq rfl rfl rfl (XL.ldSf (o := 1) o_int rfl hj (by rw [hla]; rfl) rfl XL.qd) ?_
          refine JP.qq rfl rfl rfl (XL.bin rfl rfl rfl (bAdd (by omega)) XL.qd) ?_
          refine JP.qq rfl rfl rfl (XL.mv rfl rfl XL.qd) ?_
          refine JP.qq rfl rfl rfl (XL.bin rfl rfl rfl (bAdd (by omega)) (XL.re 106 (u := .int .i64 ((2 + 16 * T.c.lst.1 + T.c.lst.2 + k : Nat) : Int)) rfl (congrArg (Value.int .i64) (by omega)) XL.qd)) ?_
          refine JP.qq rfl rfl rfl (XL.mv rfl rfl XL.qd) ?_
          refine JP.ee rfl ?_
          refine XL.call hb_sector_Disk_Write rfl rfl (sector_Disk_Write_fn bd (putParts T.D (2 + 16 * T.c.lst.1 + T.c.lst.2) T.c.boot T.c.seq (partsZ s.length).toNat s k) (2 + 16 * T.c.lst.1 + T.c.lst.2 + k) (partB T.c.boot T.c.seq k (partsZ s.length).toNat ((s.drop (233 * k)).take 233)) (by omega) (by rw [partB_length]; omega) (by omega) (by omega) (hgo k hk).off (hgo k hk).left) (t1.c tn) ?_
          rintro _ _ ⟨rfl, rfl⟩
          simp only [List.cons_append, List.nil_append]
          refine XL.ed ?_
          refine JP.ee rfl ?_
          refine XL.as rfl rfl ?_
          refine XL.ed ?_
          refine JP.done ?_
          refine XQ.thenN ?_
          refine XC.seq ?_
          refine XC.reg ?_
          refine XL.mv rfl rfl ?_
          refine XL.bin rfl rfl rfl (bNeI) ?_
          refine XL.nil ?_
          refine XQ.thenN ?_
          refine XC.condF' rfl (decide_eq_false (by omega)) ?_
          refine XC.skip ?_
          refine XQ.blkN ?_
          refine XQ.thenN ?_
          refine XC.reg ?_
          refine XL.bin rfl rfl rfl (bAdd (by omega)) ?_
          refine XL.mv rfl rfl ?_
          refine XL.nil ?_
          exact XQ.again (k + 1) (by omega) (by omega) ⟨rfl, rfl, rfl, rfl, rfl, rfl, rfl, rfl, trivial⟩ (fun w h => Take.sat (t1.c <| t0.c tall) h)
        · have hke : k = (partsZ s.length).toNat := by omega
          refine XC.exit ?_
          refine XQ.thenE ?_
          refine XQ.thenE ?_
          refine XQ.blkE ?_
          refine XQ.thenN ?_
          refine XC.seq ?_
          refine XC.seq ?_
          refine XC.reg ?_
          refine XL.mv rfl rfl ?_
          refine XL.ncP rfl rfl ?_
          refine XL.fa fo_seglog_Log_1 rfl rfl ?_
          refine XL.ld o_P_sector_Disk rfl (by rfl) rfl ?_
          refine XL.call hb_sector_Disk_Flush rfl rfl (sector_Disk_Flush_fn bd (putParts T.D (2 + 16 * T.c.lst.1 + T.c.lst.2) T.c.boot T.c.seq (partsZ s.length).toNat s k) (hgo k hk).wf (hgo k hk).off (hgo k hk).left) (t1.c tn) ?_
          rintro _ _ ⟨rfl, rfl⟩
          simp only [List.cons_append, List.nil_append]
          refine XL.as rfl rfl ?_
          refine XL.nil ?_
          refine XQ.thenN ?_
          refine XC.seq ?_
          refine XC.reg ?_
          refine XL.mv rfl rfl ?_
          refine XL.bin rfl rfl rfl (bNeI) ?_
          refine XL.nil ?_
          refine XQ.thenN ?_
          refine XC.condF' rfl (decide_eq_false (by omega)) ?_
          refine XC.skip ?_
          refine XQ.thenN ?_
          refine XC.seq ?_
          refine XC.reg ?_
          refine XL.mv rfl rfl ?_
          refine XL.ncP rfl rfl ?_
          refine XL.fa fo_seglog_Segment_1 rfl rfl ?_
          refine XL.ldSf (o := 1) o_int rfl hj (by rw [hla]; rfl) rfl ?_
          refine XL.mv rfl rfl ?_
          refine XL.bin rfl rfl rfl (bAdd (by omega)) ?_
          refine XL.ncP rfl rfl ?_
          refine XL.fa fo_seglog_Segment_1 rfl rfl ?_
          refine XL.stSf (T.c.lst.1, T.c.lst.2 + (partsZ s.length).toNat) o_int rfl rfl hj (by decide) (by rw [hla]; rfl) rfl ?_
          refine XL.nil ?_
          refine XQ.thenN ?_
          refine XC.seq ?_
          refine XC.reg ?_
          refine XL.mv rfl rfl ?_
          refine XL.ncP rfl rfl ?_
          refine XL.fa fo_seglog_Log_0 rfl rfl ?_
          refine XL.fa fo_seglog_checkpoint_2 rfl rfl ?_
          refine XL.ld o_int rfl (by rfl) rfl ?_
          refine XL.bin rfl rfl rfl (bAdd (by omega)) ?_
          refine XL.ncP rfl rfl ?_
          refine XL.fa fo_seglog_Log_0 rfl rfl ?_
          refine XL.fa fo_seglog_checkpoint_2 rfl rfl ?_
          refine XL.st o_int rfl rfl rfl ?_
          refine XL.nil ?_
          refine XQ.thenN ?_
          refine XC.seq ?_
          refine XC.drw (.q 0 <| .q 1 <| .q 2 <| .q 3 <| .q 4 <| .q 5 <| .q 6 <| .q 7 <| .q 8 <| .q 9 <| .q 10 <| .q 11 <| .e 12 <| .e 13 <| .done) mixed (by kernel_rfl) rfl ?_
          refine JP.qq rfl rfl rfl (XL.mv rfl rfl XL.qd) ?_
          refine JP.qq rfl rfl rfl (XL.ncP rfl rfl XL.qd) ?_
          refine JP.qq rfl rfl rfl (XL.fa fo_seglog_Log_0 rfl rfl XL.qd) ?_
          refine JP.qq rfl rfl rfl (XL.fa fo_seglog_checkpoint_2 rfl rfl XL.qd) ?_
          refine JP.qq rfl rfl rfl (XL.ld o_int rfl (by rfl) rfl XL.qd) ?_
          refine JP.qq rfl rfl rfl (XL.bin rfl rfl rfl (bSub (by omega)) (XL.re 145 (u := .int .i64 (T.c.seq : Int)) rfl (congrArg (Value.int .i64) (by omega)) XL.qd)) ?_
          refine JP.qq rfl rfl rfl (XL.mv rfl rfl XL.qd) ?_
          refine JP.qq rfl rfl rfl (XL.ncP rfl rfl XL.qd) ?_
          refine JP.qq rfl rfl rfl (XL.fa fo_seglog_Segment_0 rfl rfl XL.qd) ?_
          refine JP.qq rfl rfl rfl (XL.ldSf (o := 0) o_int rfl (by rw [List.length_set]; exact hj) (by rw [List.getElem_set_self]; rfl) rfl XL.qd) ?_
          refine JP.qq rfl rfl rfl (XL.mv rfl rfl XL.qd) ?_
          refine JP.qq rfl rfl rfl (XL.bd z_seglog_Record p_seglog_Record rfl rfl XL.qd) ?_
          refine JP.ee rfl ?_
          refine XL.stM g_seglog_Record rfl rfl rfl (by rfl) rfl ?_
          refine XL.edn ?_
          refine JP.ee rfl ?_
          refine XL.as rfl rfl ?_
          refine XL.ed ?_
          refine JP.done ?_
          refine XQ.thenN ?_
          refine XC.ret ?_
          have hap : appendM G s = (⟨T.c.seq, T.c.lst.1, s⟩, 0, appendS T s) := by unfold appendM; rw [if_neg (by omega), if_neg (by omega), if_pos (by simpa using hc3), hT]
          exact XQ.ret (.inl rfl) rfl (rC (resN g_seglog_Record rfl rfl rfl) <| rC (resT rfl) <| rN) [(appendS T s).C b bd] (⟨by rw [hap]; rfl, by rw [hap]⟩) (fun w hs => by rw [hke] at hs; exact Sat.shut ⟨v⟩ (Take.sat (t1.c <| t0.c <| t0.c <| t1.c tn) hs))
end Go.Proofs.YthlfbndanknnmaaDoor
