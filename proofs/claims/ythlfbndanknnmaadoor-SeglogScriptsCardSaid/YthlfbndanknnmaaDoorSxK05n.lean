/-
  Package seglog: Open. Printed by mk.py out of spec_k05n.py.
-/
import Derived.Test.YthlfbndanknnmaaDoorSxK05m
namespace Go.Proofs.YthlfbndanknnmaaDoor
open Go Go.Sx

/-- The checkpoint that counts, and its place, behind the first i sectors. -/
def pickM (now : List (List UInt8)) : Nat → Option (Ck × Nat)
  | 0 => none
  | i + 1 => match ckOf (sec now i) (segsN now.length) with
    | none => pickM now i
    | some c => match pickM now i with
      | none => some (c, i)
      | some (c0, p) => if c0.serial < c.serial then some (c, i) else some (c0, p)
/-- What Open finds: the error, the log, the records. -/
def openL (D : DiskS) : Int × Option (LogS × List RecS) :=
  match pickM D.now 2 with
  | none => (4, none)
  | some (c, p) => match knownAll D.now c.seq c.segs [] with
    | none => (4, none)
    | some out =>
      let r := furM D.now 17 c out
      let c2 : Ck := ⟨r.1.serial + 1, r.1.boot + 1, r.1.seq, r.1.segs⟩
      if 1152921504606846976 ≤ c2.seq then (21, none)
      else if c2.fit then (0, some (saveM ⟨r.1, p, D⟩ c2, r.2)) else (21, none)

/-- A save whose checkpoint has the log's own slice. -/
theorem saveU_fn (b bd : Nat) (S : LogS) (c2 : Ck) (v : Value) (hD : Good S.D) (hpl : S.pl ≤ 1) (hc2 : c2.ok) (h2 : 2 ≤ S.D.now.length) (hq : S.D.queue.length < 1000) (hsg : c2.segs = S.c.segs) [OneV v] :
    Does P F_seglog_Log_save [.pointer (some ⟨b, 0, none⟩), c2.val v] [logB b S.c v bd S.pl, diskC bd S.D, S.c.sl v] fun u cs => u = .int .i64 (errF c2) ∧ cs = [(saveM S c2).C b bd] := by
  have e0 : S.c.sl v = c2.sl v := by unfold Ck.sl; rw [hsg]
  rw [e0]
  refine (seglog_Log_save_fn b bd S.pl S.c c2 v v S.D hD hpl hc2 h2 hq).imp ?_
  rintro u c (⟨hf, rfl, rfl⟩ | ⟨hf, rfl, rfl⟩)
  · refine ⟨_, ⟨by unfold errF; rw [if_neg hf], rfl⟩, fun F w h => ?_⟩
    have e : saveM S c2 = S := by unfold saveM; rw [if_neg hf]
    rw [e]
    rw [← e0] at h
    exact Sat.shut ⟨v⟩ h
  · refine ⟨_, ⟨by unfold errF; rw [if_pos hf], rfl⟩, fun F w h => ?_⟩
    have e : saveM S c2 = ⟨c2, 1 - S.pl, (S.D.write (1 - S.pl) (ckB c2)).flush⟩ := by unfold saveM; rw [if_pos hf]
    rw [e]
    exact Sat.shut ⟨v⟩ h

theorem knownSeg_len {now : List (List UInt8)} {seq id used : Nat} : ∀ {n at_ : Nat} {out o : List RecS}, at_ ≤ used → knownSeg now seq id used n at_ out = some o → o.length ≤ out.length + (used - at_)
  | 0, _, _, _, _, h => by cases h
  | n + 1, at_, out, o, hl, h => by
    rw [knownSeg] at h
    split at h
    · cases h; omega
    · split at h
      · cases h
      · rename_i p b hp
        have h3 := recOf_of hp
        split at h
        · cases h
        · have := knownSeg_len (by omega) h
          simp at this; omega
theorem knownAll_len {now : List (List UInt8)} {seq : Nat} : ∀ {l : List (Nat × Nat)} {out o : List RecS}, (∀ x ∈ l, x.2 ≤ 16) → knownAll now seq l out = some o → o.length ≤ out.length + 16 * l.length
  | [], out, o, _, h => by cases h; simp
  | x :: l, out, o, hx, h => by
    rw [knownAll] at h
    cases hk : knownSeg now seq x.1 x.2 17 0 out with
    | none => rw [hk] at h; cases h
    | some o1 =>
      rw [hk] at h
      have h1 := knownSeg_len (Nat.zero_le _) hk
      have h2 := knownAll_len (fun y hy => hx y (List.mem_cons_of_mem _ hy)) h
      have h3 := hx x (List.mem_cons_self ..)
      simp only [List.length_cons]; omega
theorem ckSegs_ok {s : List UInt8} {segs : Nat} : ∀ {i : Nat} {l : List (Nat × Nat)}, ckSegs s segs i = some l → ∀ x ∈ l, x.1 < segs ∧ x.2 ≤ 16
  | 0, l, h => by cases h; intro x hx; cases hx
  | i + 1, l, h => by
    rw [ckSegs] at h
    cases hc : ckSegs s segs i with
    | none => rw [hc] at h; cases h
    | some acc =>
      rw [hc] at h
      simp only [Option.bind_some] at h
      have ih := ckSegs_ok hc
      split at h; cases h
      rename_i h1
      split at h; cases h
      rename_i h2
      split at h; cases h
      cases h
      intro x hx
      simp only [List.mem_append, List.mem_singleton] at hx
      rcases hx with hx | rfl
      · exact ih x hx
      · have e1 : byt s (26 + 2 * i) = (bn s (26 + 2 * i) : Int) := rfl
        have e2 : byt s (27 + 2 * i) = (bn s (27 + 2 * i) : Int) := rfl
        exact ⟨by dsimp only; omega, by dsimp only; omega⟩
theorem ckOf_ok {s : List UInt8} {segs : Nat} {c : Ck} (h : ckOf s segs = some c) : c.serial ≤ 1152921504606846976 ∧ c.boot ≤ 1152921504606846976 ∧ c.seq ≤ 1152921504606846976 ∧ 1 ≤ c.segs.length ∧ c.segs.length ≤ segs ∧ ∀ x ∈ c.segs, x.1 < segs ∧ x.2 ≤ 16 := by
  have hb : byt s 25 = (bn s 25 : Int) := rfl
  unfold ckOf at h
  split at h; cases h
  split at h; cases h
  rename_i hf
  split at h; cases h
  rename_i h1
  split at h; cases h
  rename_i h2
  split at h; cases h
  rename_i l hl
  split at h; cases h
  cases h
  have hff : fitsB [tk s 1 9, tk s 9 17, tk s 17 25] = true := by simpa using hf
  simp only [fitsB, List.all_cons, List.all_nil, Bool.and_eq_true, decide_eq_true_eq] at hff
  have hlen := ckSegs_length hl
  exact ⟨by dsimp only; omega, by dsimp only; omega, by dsimp only; omega, by dsimp only; omega, by dsimp only; omega, ckSegs_ok hl⟩
theorem pickM_ok {now : List (List UInt8)} : ∀ {i : Nat} {c : Ck} {p : Nat}, pickM now i = some (c, p) → p < i ∧ c.serial ≤ 1152921504606846976 ∧ c.boot ≤ 1152921504606846976 ∧ c.seq ≤ 1152921504606846976 ∧ 1 ≤ c.segs.length ∧ c.segs.length ≤ segsN now.length ∧ ∀ x ∈ c.segs, x.1 < segsN now.length ∧ x.2 ≤ 16
  | 0, c, p, h => by cases h
  | i + 1, c, p, h => by
    rw [pickM] at h
    split at h
    · have := pickM_ok h; exact ⟨by omega, this.2⟩
    · rename_i c1 hc1
      split at h
      · cases h; exact ⟨by omega, ckOf_ok hc1⟩
      · rename_i c0 p0 hc0
        split at h
        · cases h; exact ⟨by omega, ckOf_ok hc1⟩
        · cases h; have := pickM_ok hc0; exact ⟨by omega, this.2⟩
def ckE : Ck := ⟨0, 0, 0, []⟩
def ckD (o : Option Ck) : Ck := o.getD ckE
/-- 'checkpointOf', in one form. -/
theorem ckT_fn (s : List UInt8) (segs : Nat) (hs : s.length = 256) (hn : segs ≤ 64) : Does P F_seglog_checkpointOf [Go.Sx.S s, .int .i64 (segs : Int)] [] fun u cs => ∃ v, u = .tuple #[(ckD (ckOf s segs)).val v, .bool (ckOf s segs).isSome] ∧ cs = [(ckD (ckOf s segs)).sl v] := by
  refine (seglog_checkpointOf_fn s segs hs hn).imp ?_
  rintro u c (⟨h1, rfl, rfl⟩ | ⟨c0, v, h1, rfl, rfl⟩)
  · refine ⟨_, ⟨.slice none 0 0, by rw [h1]; rfl, rfl⟩, fun F w h => ?_⟩
    rw [h1]
    exact sl_nil (enc := encG) (e := T_seglog_Segment) (sz := 2) h
  · refine ⟨_, ⟨v, by rw [h1]; rfl, rfl⟩, fun F w h => ?_⟩
    rw [h1]
    exact h

/-- 'known', in one form. -/
theorem knownT_fn (b bd pl : Nat) (c : Ck) (v : Value) (D : DiskS) (hD : Good D) (hc : c.segs.length ≤ 64) (hseg : ∀ x ∈ c.segs, 18 + 16 * x.1 ≤ D.now.length ∧ x.2 ≤ 16) :
    Does P F_seglog_Log_known [.pointer (some ⟨b, 0, none⟩)] [logB b c v bd pl, diskC bd D, c.sl v] fun u cs => ∃ vo, u = .tuple #[vo, .int .i64 (if (knownAll D.now c.seq c.segs []).isSome then 0 else 4)] ∧ cs = [logB b c v bd pl, diskC bd D, c.sl v, recS vo ((knownAll D.now c.seq c.segs []).getD [])] := by
  refine (seglog_Log_known_fn b bd pl c v D hD hc hseg).imp ?_
  rintro u cs (⟨h1, rfl, rfl⟩ | ⟨out, vo, h1, rfl, rfl⟩)
  · refine ⟨_, ⟨.slice none 0 0, by rw [h1]; rfl, rfl⟩, fun F w h => ?_⟩
    rw [h1]
    exact Take.sat (t1.c <| t1.c <| t1.c <| t0.c tall) (sl_nil (enc := encR) (e := T_seglog_Record) (sz := 3) h)
  · refine ⟨_, ⟨vo, by rw [h1]; rfl, rfl⟩, fun F w h => ?_⟩
    rw [h1]
    exact h

def chC (o : Option (Ck × Nat)) : Ck := (o.map (·.1)).getD ckE
def chP (o : Option (Ck × Nat)) : Nat := (o.map (·.2)).getD 0
theorem pick_new {now : List (List UInt8)} {i : Nat} {o : Option (Ck × Nat)} (hp : pickM now i = o) (hc : (ckOf (sec now i) (segsN now.length)).isSome = true) (h : o.isSome = false ∨ (chC o).serial < (ckD (ckOf (sec now i) (segsN now.length))).serial) :
    pickM now (i + 1) = some (ckD (ckOf (sec now i) (segsN now.length)), i) := by
  obtain ⟨c, hcc⟩ := Option.isSome_iff_exists.1 hc
  rw [pickM, hcc, hp]
  cases o with
  | none => rfl
  | some x => rw [hcc] at h; dsimp only; rw [if_pos (by rcases h with h | h; cases h; exact h)]; rfl
theorem pick_old {now : List (List UInt8)} {i : Nat} {o : Option (Ck × Nat)} (hp : pickM now i = o) (h : (ckOf (sec now i) (segsN now.length)).isSome = false ∨ (o.isSome = true ∧ ¬ (chC o).serial < (ckD (ckOf (sec now i) (segsN now.length))).serial)) : pickM now (i + 1) = o := by
  rw [pickM, hp]
  cases hcc : ckOf (sec now i) (segsN now.length) with
  | none => rfl
  | some c =>
    rw [hcc] at h
    rcases h with h | ⟨h1, h2⟩
    · cases h
    · cases o with
      | none => cases h1
      | some x =>
        have h3 : ¬ x.1.serial < c.serial := h2
        dsimp only; rw [if_neg h3]

/-- Segments that lie on a disk of so many sectors. -/
def SegOn (N : Nat) (l : List (Nat × Nat)) : Prop := ∀ x ∈ l, 18 + 16 * x.1 ≤ N ∧ x.2 ≤ 16
theorem furM_ok {now : List (List UInt8)} {N : Nat} : ∀ (n : Nat) (c : Ck) (out : List RecS), 0 < c.segs.length → c.seq ≤ 1152921504606846976 → SegOn N c.segs →
    (furM now n c out).1.serial = c.serial ∧ (furM now n c out).1.boot = c.boot ∧ (furM now n c out).1.segs.length = c.segs.length ∧ (furM now n c out).1.seq ≤ 1152921504606846976 ∧ SegOn N (furM now n c out).1.segs
  | 0, c, out, h0, hq, hx => ⟨rfl, rfl, rfl, hq, hx⟩
  | n + 1, c, out, h0, hq, hx => by
    have hl : 18 + 16 * c.lst.1 ≤ N ∧ c.lst.2 ≤ 16 := by rw [← lst_at (c := c) rfl (by omega)]; exact hx _ (List.getElem_mem _)
    rw [furM]
    split
    · exact ⟨rfl, rfl, rfl, hq, hx⟩
    · split
      · exact ⟨rfl, rfl, rfl, hq, hx⟩
      · rename_i p b hp
        have hr := recOf_of hp
        split
        · have := furM_ok (now := now) (N := N) n (c.more p.of) (out ++ [⟨p.seq, c.lst.1, b⟩]) (by simp [Ck.more]; omega) (by simp only [Ck.more]; omega) (by
            intro x hxm
            simp only [Ck.more] at hxm
            rcases List.mem_or_eq_of_mem_set hxm with h | rfl
            · exact hx x h
            · exact ⟨hl.1, by dsimp only; omega⟩)
          simpa [Ck.more] using this
        · exact ⟨rfl, rfl, rfl, hq, hx⟩
/-- The checkpoint of the next boot. -/
def Ck.nb (c : Ck) : Ck := ⟨c.serial + 1, c.boot + 1, c.seq, c.segs⟩
theorem openL_eq {D : DiskS} {c : Ck} {p : Nat} {out : List RecS} {R : Ck × List RecS} (h1 : pickM D.now 2 = some (c, p)) (h2 : knownAll D.now c.seq c.segs [] = some out) (hR : furM D.now 17 c out = R) :
    openL D = if 1152921504606846976 ≤ R.1.seq then (21, none) else if R.1.nb.fit then (0, some (saveM ⟨R.1, p, D⟩ R.1.nb, R.2)) else (21, none) := by
  subst hR
  unfold openL
  rw [h1]; dsimp only
  rw [h2]; dsimp only
  rfl
theorem errF_ne {c : Ck} (h : ¬ errF c = 0) : ¬ c.fit ∧ errF c = 21 := by
  unfold errF at *
  split at h
  · exact absurd rfl h
  · rename_i hf; exact ⟨hf, by rw [if_neg hf]⟩
theorem errF_eq {c : Ck} (h : errF c = 0) : c.fit := by
  unfold errF at h
  split at h
  · assumption
  · omega

theorem seglog_Open_fn (bd : Nat) (D : DiskS) (hD : Good D) (h66 : 66 ≤ D.now.length) (hq : D.queue.length ≤ 100) :
  Does P F_seglog_Open [.pointer (some ⟨bd, 0, none⟩)] [diskC bd D] fun u cs => match openL D with
    | (e, none) => u = .tuple #[.pointer none, .slice none 0 0, .int .i64 e] ∧ cs = [diskC bd D]
    | (_, some (S, out)) => ∃ b vo, u = .tuple #[.pointer (some ⟨b, 0, none⟩), vo, .int .i64 0] ∧ cs = [S.C b bd, recS vo out] := by
  refine Does.mk (N := 106) fn_seglog_Open rfl rfl rfl (fun F => ?_)
  simp only [List.cons_append, List.nil_append]
  have hN : 4 ≤ segsN D.now.length ∧ segsN D.now.length ≤ 64 := by unfold segsN; omega
  have hm := hD.wf.most
  refine XC.seq ?_
  refine XC.reg ?_
  refine XL.as rfl rfl ?_
  refine XL.as rfl rfl ?_
  refine XL.as rfl rfl ?_
  refine XL.nil ?_
  refine XQ.thenN ?_
  refine XC.seq ?_
  refine XC.reg ?_
  refine XL.mv rfl rfl ?_
  refine XL.call hb_seglog_segments rfl rfl (seglog_segments_fn bd D hD.wf.most) (t0.c tn) ?_
  rintro _ _ ⟨rfl, rfl⟩
  simp only [List.cons_append, List.nil_append]
  refine XL.as rfl rfl ?_
  refine XL.nil ?_
  refine XQ.thenN ?_
  refine XC.seq ?_
  refine XC.seq ?_
  refine XC.reg ?_
  refine XL.mv rfl rfl ?_
  refine XL.bin rfl rfl rfl (bLss) ?_
  refine XL.nil ?_
  refine XQ.thenN ?_
  refine XC.condF' rfl (decide_eq_false (by omega)) ?_
  refine XC.skip ?_
  refine XQ.thenN ?_
  refine XC.seq ?_
  refine XC.reg ?_
  refine XL.mv rfl rfl ?_
  refine XL.bd z_seglog_Log p_seglog_Log rfl rfl ?_
  refine XL.bx rfl rfl rfl (fun b23 => ?_)
  refine XL.as rfl rfl ?_
  refine XL.nil ?_
  refine XQ.thenN ?_
  refine XC.seq ?_
  refine XC.reg ?_
  refine XL.as rfl rfl ?_
  refine XL.nil ?_
  refine XQ.thenN ?_
  refine XC.seq ?_
  refine XC.seq ?_
  refine XC.reg ?_
  refine XL.mv rfl rfl ?_
  refine XL.nil ?_
  refine XQ.thenN ?_
  refine XC.block ?_
  refine XC.loop (ι := Nat × Option (Ck × Nat) × Value) (fun z => [(0, .pointer (some ⟨bd, 0, none⟩)), (5, .int .i64 (segsN D.now.length : Int)), (6, .pointer (some ⟨b23, 0, none⟩)), (7, .bool z.2.1.isSome), (24, .int .i64 (z.1 : Int))])
    (fun z => [logB b23 (chC z.2.1) z.2.2 bd (chP z.2.1), diskC bd D, (chC z.2.1).sl z.2.2, F]) (fun z => z.1 ≤ 2 ∧ pickM D.now z.1 = z.2.1) (fun z => 2 - z.1) (0, none, .slice none 0 0) ⟨Nat.zero_le _, rfl⟩ ⟨rfl, rfl, rfl, rfl, rfl, trivial⟩ (fun w h => Take.sat (t1.c <| t1.c <| t0.c <| t0.c tn) (sl_nil (enc := encG) (e := T_seglog_Segment) (sz := 2) h)) (fun z hz => ?_)
  refine XC.seq ?_
  refine XC.reg ?_
  refine XL.bin rfl rfl rfl (bLss) ?_
  refine XL.nil ?_
  refine XQ.thenN ?_
  refine XC.seq ?_
  refine XC.cond rfl (fun hc1 => ?_) (fun hc1 => ?_)
  · refine XC.skip ?_
    refine XQ.thenN ?_
    refine XC.seq ?_
    refine XC.block ?_
    refine XC.seq ?_
    refine XC.reg ?_
    refine XL.mv rfl rfl ?_
    refine XL.as rfl rfl ?_
    refine XL.nil ?_
    refine XQ.thenN ?_
    refine XC.seq ?_
    refine XC.reg ?_
    refine XL.mv rfl rfl ?_
    refine XL.mv rfl rfl ?_
    refine XL.call hb_sector_Disk_Read rfl rfl (sector_Disk_Read_fn bd D z.1 (by omega) hm (hD.wf.size _ (List.getElem_mem _)) hD.off) (t1.c tn) ?_
    rintro _ _ ⟨rfl, rfl⟩
    simp only [List.cons_append, List.nil_append]
    refine XL.mv rfl rfl ?_
    refine XL.re 27 (u := .tuple #[S (sec D.now z.1), .int .i64 0]) rfl (by rw [show sec D.now z.1 = full (D.now[z.1]) by unfold sec; congr 1; exact (List.getElem_eq_getD []).symm]) ?_
    refine XL.ex rfl rfl rfl ?_
    refine XL.ex rfl rfl rfl ?_
    refine XL.as rfl rfl ?_
    refine XL.as rfl rfl ?_
    refine XL.nil ?_
    refine XQ.thenN ?_
    refine XC.seq ?_
    refine XC.seq ?_
    refine XC.reg ?_
    refine XL.mv rfl rfl ?_
    refine XL.bin rfl rfl rfl (bNeI) ?_
    refine XL.nil ?_
    refine XQ.thenN ?_
    refine XC.condF' rfl (decide_eq_false (by omega)) ?_
    refine XC.skip ?_
    refine XQ.thenN ?_
    refine XC.seq ?_
    refine XC.reg ?_
    refine XL.mv rfl rfl ?_
    refine XL.mv rfl rfl ?_
    refine XL.call hb_seglog_checkpointOf rfl rfl (ckT_fn (sec D.now z.1) (segsN D.now.length) (sec_length hD.wf.size) hN.2) tn ?_
    rintro _ _ ⟨vk, rfl, rfl⟩
    simp only [List.cons_append, List.nil_append]
    refine XL.oneV vk (fun _ => ?_)
    refine XL.mv rfl rfl ?_
    refine XL.ex rfl rfl rfl ?_
    refine XL.ex rfl rfl rfl ?_
    refine XL.al z_seglog_checkpoint rfl (fun b11 => ?_)
    refine XL.stM g_seglog_checkpoint rfl rfl rfl (by rfl) rfl ?_
    refine XL.as rfl rfl ?_
    refine XL.nil ?_
    refine XQ.thenN ?_
    refine XC.seq ?_
    refine XC.drw (.q 0 <| .q 1 <| .q 2 <| .q 3 <| .q 4 <| .q 5 <| .q 6 <| .q 7 <| .q 8 <| .q 9 <| .q 10 <| .q 11 <| .q 12 <| .q 13 <| .q 14 <| .done) mixed (by kernel_rfl) rfl ?_
    refine JP.qq rfl rfl rfl (XL.mv rfl rfl XL.qd) ?_
    refine JP.qq rfl rfl rfl (XL.mv rfl rfl XL.qd) ?_
    refine JP.splitB 43 rfl (fun hg43 => ?_) (fun hg43 => ?_)
    · refine JP.qq rfl rfl rfl (XL.mv rfl rfl XL.qd) ?_
      refine JP.qq rfl rfl rfl (XL.notT rfl rfl XL.qd) ?_
      refine JP.qq rfl rfl rfl (XL.mv rfl rfl XL.qd) ?_
      refine JP.splitB 46 rfl (fun hg46 => ?_) (fun hg46 => ?_)
      · refine JP.qq rfl rfl rfl (XL.no rfl rfl XL.qd) ?_
        refine JP.qq rfl rfl rfl (XL.no rfl rfl XL.qd) ?_
        refine JP.qq rfl rfl rfl (XL.no rfl rfl XL.qd) ?_
        refine JP.qq rfl rfl rfl (XL.no rfl rfl XL.qd) ?_
        refine JP.qq rfl rfl rfl (XL.no rfl rfl XL.qd) ?_
        refine JP.qq rfl rfl rfl (XL.no rfl rfl XL.qd) ?_
        refine JP.qq rfl rfl rfl (XL.no rfl rfl XL.qd) ?_
        refine JP.qq rfl rfl rfl (XL.no rfl rfl XL.qd) ?_
        refine JP.qq rfl rfl rfl (XL.pkT rfl rfl rfl XL.qd) ?_
        refine JP.qq rfl rfl rfl (XL.pkT rfl rfl rfl XL.qd) ?_
        refine JP.done ?_
        refine XQ.thenN ?_
        refine XC.condT rfl ?_
        refine XC.reg ?_
        refine XL.mv rfl rfl ?_
        refine XL.mv rfl rfl ?_
        refine XL.ldM g_seglog_checkpoint rfl (by rfl) rfl ?_
        refine XL.mv rfl rfl ?_
        refine XL.ncP rfl rfl ?_
        refine XL.fa fo_seglog_Log_0 rfl rfl ?_
        refine XL.stM g_seglog_checkpoint rfl rfl rfl (by rfl) rfl ?_
        refine XL.ncP rfl rfl ?_
        refine XL.fa fo_seglog_Log_2 rfl rfl ?_
        refine XL.st o_int rfl rfl rfl ?_
        refine XL.as rfl rfl ?_
        refine XL.nil ?_
        refine XQ.blkN ?_
        refine XQ.thenN ?_
        refine XC.reg ?_
        refine XL.bin rfl rfl rfl (bAdd (by omega)) ?_
        refine XL.mv rfl rfl ?_
        refine XL.nil ?_
        exact XQ.again (z.1 + 1, some (ckD (ckOf (sec D.now z.1) (segsN D.now.length)), z.1), vk) ⟨by omega, pick_new hz.2 (by simpa using hg43) (.inl (by simpa using hg46))⟩ (by dsimp only; omega) ⟨rfl, rfl, rfl, rfl, rfl, trivial⟩ (fun w h => Take.sat (t3.c <| t2.c <| t1.c <| t2.c tn) h)
      · refine JP.qq rfl rfl rfl (XL.fa fo_seglog_checkpoint_0 rfl rfl XL.qd) ?_
        refine JP.qq rfl rfl rfl (XL.ld o_int rfl (by rfl) rfl XL.qd) ?_
        refine JP.qq rfl rfl rfl (XL.mv rfl rfl XL.qd) ?_
        refine JP.qq rfl rfl rfl (XL.ncP rfl rfl XL.qd) ?_
        refine JP.qq rfl rfl rfl (XL.fa fo_seglog_Log_0 rfl rfl XL.qd) ?_
        refine JP.qq rfl rfl rfl (XL.fa fo_seglog_checkpoint_0 rfl rfl XL.qd) ?_
        refine JP.qq rfl rfl rfl (XL.ld o_int rfl (by rfl) rfl XL.qd) ?_
        refine JP.qq rfl rfl rfl (XL.bin rfl rfl rfl (bGtr) XL.qd) ?_
        refine JP.qq rfl rfl rfl (XL.pkF rfl rfl rfl XL.qd) ?_
        refine JP.qq rfl rfl rfl (XL.pkT rfl rfl rfl XL.qd) ?_
        refine JP.done ?_
        refine XQ.thenN ?_
        refine XC.cond rfl (fun hc3 => ?_) (fun hc3 => ?_)
        · refine XC.reg ?_
          refine XL.mv rfl rfl ?_
          refine XL.mv rfl rfl ?_
          refine XL.ldM g_seglog_checkpoint rfl (by rfl) rfl ?_
          refine XL.mv rfl rfl ?_
          refine XL.ncP rfl rfl ?_
          refine XL.fa fo_seglog_Log_0 rfl rfl ?_
          refine XL.stM g_seglog_checkpoint rfl rfl rfl (by rfl) rfl ?_
          refine XL.ncP rfl rfl ?_
          refine XL.fa fo_seglog_Log_2 rfl rfl ?_
          refine XL.st o_int rfl rfl rfl ?_
          refine XL.as rfl rfl ?_
          refine XL.nil ?_
          refine XQ.blkN ?_
          refine XQ.thenN ?_
          refine XC.reg ?_
          refine XL.bin rfl rfl rfl (bAdd (by omega)) ?_
          refine XL.mv rfl rfl ?_
          refine XL.nil ?_
          exact XQ.again (z.1 + 1, some (ckD (ckOf (sec D.now z.1) (segsN D.now.length)), z.1), vk) ⟨by omega, pick_new hz.2 (by simpa using hg43) (.inr (by omega))⟩ (by dsimp only; omega) ⟨rfl, rfl, rfl, rfl, rfl, trivial⟩ (fun w h => Take.sat (t3.c <| t2.c <| t1.c <| t2.c tn) h)
        · refine XC.skip ?_
          refine XQ.blkN ?_
          refine XQ.thenN ?_
          refine XC.reg ?_
          refine XL.bin rfl rfl rfl (bAdd (by omega)) ?_
          refine XL.mv rfl rfl ?_
          refine XL.nil ?_
          have hc5 : ¬ (chC z.2.1).serial < (ckD (ckOf (sec D.now z.1) (segsN D.now.length))).serial := by omega
          exact XQ.again (z.1 + 1, z.2.1, z.2.2) ⟨by omega, pick_old hz.2 (.inr ⟨by simpa using hg46, hc5⟩)⟩ (by dsimp only; omega) ⟨rfl, rfl, rfl, rfl, rfl, trivial⟩ (fun w h => Take.sat (t3.c <| t2.c <| t2.c <| t2.c tn) h)
    · refine JP.qq rfl rfl rfl (XL.no rfl rfl XL.qd) ?_
      refine JP.qq rfl rfl rfl (XL.no rfl rfl XL.qd) ?_
      refine JP.qq rfl rfl rfl (XL.no rfl rfl XL.qd) ?_
      refine JP.qq rfl rfl rfl (XL.no rfl rfl XL.qd) ?_
      refine JP.qq rfl rfl rfl (XL.no rfl rfl XL.qd) ?_
      refine JP.qq rfl rfl rfl (XL.no rfl rfl XL.qd) ?_
      refine JP.qq rfl rfl rfl (XL.no rfl rfl XL.qd) ?_
      refine JP.qq rfl rfl rfl (XL.no rfl rfl XL.qd) ?_
      refine JP.qq rfl rfl rfl (XL.no rfl rfl XL.qd) ?_
      refine JP.qq rfl rfl rfl (XL.no rfl rfl XL.qd) ?_
      refine JP.qq rfl rfl rfl (XL.no rfl rfl XL.qd) ?_
      refine JP.qq rfl rfl rfl (XL.no rfl rfl XL.qd) ?_
      refine JP.qq rfl rfl rfl (XL.pkF rfl rfl rfl XL.qd) ?_
      refine JP.done ?_
      refine XQ.thenN ?_
      refine XC.condF rfl ?_
      refine XC.skip ?_
      refine XQ.blkN ?_
      refine XQ.thenN ?_
      refine XC.reg ?_
      refine XL.bin rfl rfl rfl (bAdd (by omega)) ?_
      refine XL.mv rfl rfl ?_
      refine XL.nil ?_
      exact XQ.again (z.1 + 1, z.2.1, z.2.2) ⟨by omega, pick_old hz.2 (.inl (by simpa using hg43))⟩ (by dsimp only; omega) ⟨rfl, rfl, rfl, rfl, rfl, trivial⟩ (fun w h => Take.sat (t3.c <| t2.c <| t2.c <| t2.c tn) h)
  · refine XC.exit ?_
    refine XQ.thenE ?_
    refine XQ.thenE ?_
    refine XQ.blkE ?_
    refine XQ.thenN ?_
    refine XC.seq ?_
    refine XC.seq ?_
    refine XC.reg ?_
    refine XL.mv rfl rfl ?_
    refine XL.notT rfl rfl ?_
    refine XL.nil ?_
    refine XQ.thenN ?_
    refine XC.condB rfl (fun hc4 => ?_) (fun hc4 => ?_)
    · refine XC.seq ?_
      refine XC.reg ?_
      refine XL.as rfl rfl ?_
      refine XL.as rfl rfl ?_
      refine XL.as rfl rfl ?_
      refine XL.nil ?_
      refine XQ.thenN ?_
      refine XC.ret ?_
      refine XQ.thenR ?_
      exact XQ.ret (.inl rfl) rfl (rC (resT rfl) <| rC (resT rfl) <| rC (resT rfl) <| rN) [diskC bd D] ((by rw [show openL D = (4, none) from (by unfold openL; rw [show pickM D.now 2 = none by rw [← show z.1 = 2 by omega, hz.2]; simpa using hc4])]; exact ⟨rfl, rfl⟩)) (fun w h => Take.sat (t1.c <| t2.c tn) h)
    · have hz2 : z.1 = 2 := by omega
      obtain ⟨⟨c, p⟩, ho⟩ := Option.isSome_iff_exists.1 (show z.2.1.isSome = true by simpa using hc4)
      have hpk : pickM D.now 2 = some (c, p) := by rw [← hz2, hz.2, ho]
      obtain ⟨hp2, hks, hkb, hkq, hk1, hkn, hkx⟩ := pickM_ok hpk
      have hC : chC z.2.1 = c := by rw [ho]; rfl
      have hP : chP z.2.1 = p := by rw [ho]; rfl
      refine XC.to (fun w h => (by rw [hC, hP] at h; exact h : Sat [logB b23 c z.2.2 bd p, diskC bd D, c.sl z.2.2, F] w)) ?_
      refine XC.oneV z.2.2 (fun _ => ?_)
      have hx : ∀ x ∈ c.segs, 18 + 16 * x.1 ≤ D.now.length ∧ x.2 ≤ 16 := fun x hx => ⟨seg_room (hkx x hx).1, (hkx x hx).2⟩
      have hlx : 18 + 16 * c.lst.1 ≤ D.now.length ∧ c.lst.2 ≤ 16 := by rw [← lst_at (c := c) rfl (by omega)]; exact hx _ (List.getElem_mem _)
      refine XC.skip ?_
      refine XQ.thenN ?_
      refine XC.seq ?_
      refine XC.reg ?_
      refine XL.mv rfl rfl ?_
      refine XL.call hb_seglog_Log_known rfl rfl (knownT_fn b23 bd p c z.2.2 D hD (by omega) hx) (t0.c <| t0.c <| t0.c tn) ?_
      rintro _ _ ⟨vo, rfl, rfl⟩
      simp only [List.cons_append, List.nil_append]
      refine XL.mv rfl rfl ?_
      refine XL.ex rfl rfl rfl ?_
      refine XL.ex rfl rfl rfl ?_
      refine XL.as rfl rfl ?_
      refine XL.as rfl rfl ?_
      refine XL.nil ?_
      refine XQ.thenN ?_
      refine XC.seq ?_
      refine XC.seq ?_
      refine XC.reg ?_
      refine XL.mv rfl rfl ?_
      refine XL.bin rfl rfl rfl (bEqI) ?_
      refine XL.nil ?_
      refine XQ.thenN ?_
      refine XC.cond rfl (fun hc5 => ?_) (fun hc5 => ?_)
      · obtain ⟨out, hkn2⟩ := Option.isSome_iff_exists.1 (show (knownAll D.now c.seq c.segs []).isSome = true by (revert hc5; cases (knownAll D.now c.seq c.segs []) <;> simp))
        have hol := knownAll_len (fun x hx2 => (hx x hx2).2) hkn2
        simp only [List.length_nil] at hol
        refine XC.to (fun w h => (by rw [hkn2] at h; exact h : Sat [logB b23 c z.2.2 bd p, diskC bd D, c.sl z.2.2, recS vo out, F] w)) ?_
        refine XC.reg ?_
        refine XL.mv rfl rfl ?_
        refine XL.mv rfl rfl ?_
        refine XL.call hb_seglog_Log_further rfl rfl (seglog_Log_further_fn b23 bd p c z.2.2 vo out D hD (by omega) (by omega) hkq hlx.2 (by omega) hlx.1) (t0.c <| t0.c <| t0.c <| t0.c tn) ?_
        rintro _ _ ⟨vo2, rfl, rfl⟩
        simp only [List.cons_append, List.nil_append]
        refine XL.mv rfl rfl ?_
        refine XL.ex rfl rfl rfl ?_
        refine XL.ex rfl rfl rfl ?_
        refine XL.as rfl rfl ?_
        refine XL.as rfl rfl ?_
        refine XL.nil ?_
        refine XQ.thenN ?_
        refine XC.seq ?_
        refine XC.seq ?_
        refine XC.reg ?_
        refine XL.mv rfl rfl ?_
        refine XL.bin rfl rfl rfl (bNeI) ?_
        refine XL.nil ?_
        refine XQ.thenN ?_
        refine XC.condF' rfl (decide_eq_false (by omega)) ?_
        refine XC.skip ?_
        refine XQ.thenN ?_
        refine XC.seq ?_
        obtain ⟨R, hR⟩ : ∃ R, furM D.now 17 c out = R := ⟨_, rfl⟩
        obtain ⟨f1, f2, f3, f4, f5⟩ := furM_ok (now := D.now) (N := D.now.length) 17 c out (by omega) hkq hx
        rw [hR] at f1 f2 f3 f4 f5
        refine XC.to (fun w h => (by rw [hR] at h; exact h : Sat [logB b23 R.1 z.2.2 bd p, diskC bd D, R.1.sl z.2.2, recS vo2 R.2, F] w)) ?_
        have hok : R.1.nb.ok := ⟨by simp only [Ck.nb]; omega, by simp only [Ck.nb]; omega, by simp only [Ck.nb]; omega, by simp only [Ck.nb]; omega, fun x hxm => by have := f5 x hxm; omega⟩
        refine XC.reg ?_
        refine XL.mv rfl rfl ?_
        refine XL.mv rfl rfl ?_
        refine XL.ncP rfl rfl ?_
        refine XL.fa fo_seglog_Log_0 rfl rfl ?_
        refine XL.fa fo_seglog_checkpoint_3 rfl rfl ?_
        refine XL.ld o_L_seglog_Segment rfl (by rfl) rfl ?_
        refine XL.call hb_seglog_Log_next rfl rfl (seglog_Log_next_fn b23 bd p R.1 z.2.2 z.2.2 (by omega)) (t0.c tn) ?_
        rintro _ _ ⟨rfl, rfl⟩
        simp only [List.cons_append, List.nil_append]
        refine XL.al z_seglog_checkpoint rfl (fun b15 => ?_)
        refine XL.stM g_seglog_checkpoint rfl rfl rfl (by rfl) rfl ?_
        refine XL.nil ?_
        refine XQ.thenN ?_
        refine XC.seq ?_
        refine XC.reg ?_
        refine XL.fa fo_seglog_checkpoint_1 rfl rfl ?_
        refine XL.ld o_int rfl (by rfl) rfl ?_
        refine XL.bin rfl rfl rfl (bAdd (by omega)) (XL.re 93 (u := .int .i64 ((R.1.boot + 1 : Nat) : Int)) rfl (congrArg (Value.int .i64) (by omega)) ?_)
        refine XL.fa fo_seglog_checkpoint_1 rfl rfl ?_
        refine XL.st o_int rfl rfl rfl ?_
        refine XL.nil ?_
        refine XQ.thenN ?_
        refine XC.seq ?_
        refine XC.seq ?_
        refine XC.reg ?_
        refine XL.fa fo_seglog_checkpoint_2 rfl rfl ?_
        refine XL.ld o_int rfl (by rfl) rfl ?_
        refine XL.bin rfl rfl rfl (bGeq) ?_
        refine XL.nil ?_
        refine XQ.thenN ?_
        refine XC.cond rfl (fun hc7 => ?_) (fun hc7 => ?_)
        · refine XC.seq ?_
          refine XC.reg ?_
          refine XL.as rfl rfl ?_
          refine XL.as rfl rfl ?_
          refine XL.as rfl rfl ?_
          refine XL.nil ?_
          refine XQ.thenN ?_
          refine XC.ret ?_
          refine XQ.thenR ?_
          exact XQ.ret (.inl rfl) rfl (rC (resT rfl) <| rC (resT rfl) <| rC (resT rfl) <| rN) [diskC bd D] ((by rw [show openL D = (21, none) from (by rw [openL_eq hpk hkn2 hR, if_pos (by omega)])]; exact ⟨rfl, rfl⟩)) (fun w h => Take.sat (t2.c <| t4.c tn) h)
        · refine XC.skip ?_
          refine XQ.thenN ?_
          refine XC.seq ?_
          refine XC.seq ?_
          refine XC.reg ?_
          refine XL.mv rfl rfl ?_
          refine XL.ldM g_seglog_checkpoint rfl (by rfl) rfl ?_
          refine XL.call hb_seglog_Log_save rfl rfl (saveU_fn b23 bd ⟨R.1, p, D⟩ R.1.nb z.2.2 hD (by dsimp only; omega) hok (by dsimp only; omega) (by dsimp only; omega) rfl) (t1.c <| t1.c <| t1.c tn) ?_
          rintro _ _ ⟨rfl, rfl⟩
          simp only [List.cons_append, List.nil_append]
          refine XL.as rfl rfl ?_
          refine XL.nil ?_
          refine XQ.thenN ?_
          refine XC.seq ?_
          refine XC.reg ?_
          refine XL.mv rfl rfl ?_
          refine XL.bin rfl rfl rfl (bNeI) ?_
          refine XL.nil ?_
          refine XQ.thenN ?_
          refine XC.cond rfl (fun hc8 => ?_) (fun hc8 => ?_)
          · refine XC.seq ?_
            refine XC.reg ?_
            refine XL.mv rfl rfl ?_
            refine XL.as rfl rfl ?_
            refine XL.as rfl rfl ?_
            refine XL.as rfl rfl ?_
            refine XL.nil ?_
            refine XQ.thenN ?_
            refine XC.ret ?_
            refine XQ.thenR ?_
            exact XQ.ret (.inl rfl) rfl (rC (resT rfl) <| rC (resT rfl) <| rC (resT rfl) <| rN) [diskC bd D] ((by rw [show openL D = (21, none) from (by rw [openL_eq hpk hkn2 hR, if_neg (by omega), if_neg (errF_ne hc8).1]), (errF_ne hc8).2]; exact ⟨rfl, rfl⟩)) (fun w hs => by rw [show saveM ⟨R.1, p, D⟩ R.1.nb = ⟨R.1, p, D⟩ from (by unfold saveM; rw [if_neg (errF_ne hc8).1])] at hs; obtain ⟨zz, h3⟩ := Sat.opens hs; exact Take.sat (t1.c <| t4.c tn) h3)
          · refine XC.skip ?_
            refine XQ.thenN ?_
            refine XC.seq ?_
            refine XC.reg ?_
            refine XL.mv rfl rfl ?_
            refine XL.mv rfl rfl ?_
            refine XL.as rfl rfl ?_
            refine XL.as rfl rfl ?_
            refine XL.as rfl rfl ?_
            refine XL.nil ?_
            refine XQ.thenN ?_
            refine XC.ret ?_
            exact XQ.ret (.inl rfl) rfl (rC (resT rfl) <| rC (resT rfl) <| rC (resT rfl) <| rN) [(saveM ⟨R.1, p, D⟩ R.1.nb).C b23 bd, recS vo2 R.2] ((by rw [show openL D = (0, some (saveM ⟨R.1, p, D⟩ R.1.nb, R.2)) from (by rw [openL_eq hpk hkn2 hR, if_neg (by omega), if_pos (errF_eq (by omega))])]; exact ⟨b23, vo2, rfl, rfl⟩)) (fun w h => Take.sat (t0.c <| t1.c <| t1.c tn) h)
      · have hkn2 : knownAll D.now c.seq c.segs [] = none := by (revert hc5; cases (knownAll D.now c.seq c.segs []) <;> simp)
        refine XC.skip ?_
        refine XQ.thenN ?_
        refine XC.seq ?_
        refine XC.seq ?_
        refine XC.reg ?_
        refine XL.mv rfl rfl ?_
        refine XL.bin rfl rfl rfl (bNeI) ?_
        refine XL.nil ?_
        refine XQ.thenN ?_
        refine XC.condT' rfl (by rw [hkn2]; rfl) ?_
        refine XC.seq ?_
        refine XC.reg ?_
        refine XL.mv rfl rfl ?_
        refine XL.as rfl rfl ?_
        refine XL.as rfl rfl ?_
        refine XL.as rfl rfl ?_
        refine XL.nil ?_
        refine XQ.thenN ?_
        refine XC.ret ?_
        refine XQ.thenR ?_
        exact XQ.ret (.inl rfl) rfl (rC (resT rfl) <| rC (resT rfl) <| rC (resT rfl) <| rN) [diskC bd D] ((by rw [show openL D = (4, none) from (by unfold openL; rw [hpk]; dsimp only; rw [hkn2]), hkn2]; exact ⟨rfl, rfl⟩)) (fun w h => Take.sat (t1.c <| t3.c tn) h)
end Go.Proofs.YthlfbndanknnmaaDoor
