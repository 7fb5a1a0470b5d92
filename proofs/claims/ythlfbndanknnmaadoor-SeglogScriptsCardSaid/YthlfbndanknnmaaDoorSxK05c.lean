/-
  Package seglog: a checkpoint out of a sector. Printed by mk.py out of spec_k05c.py.
-/
import Derived.Test.YthlfbndanknnmaaDoorSxK05b
import Derived.Test.YthlfbndanknnmaaDoorSxKlib
namespace Go.Proofs.YthlfbndanknnmaaDoor
open Go Go.Sx

theorem dropWhile_nil_iff {p : UInt8 → Bool} : ∀ {l : List UInt8}, l.dropWhile p = [] ↔ ∀ x ∈ l, p x = true
  | [] => by simp
  | x :: l => by
    rw [List.dropWhile_cons]
    split
    · rename_i h; rw [dropWhile_nil_iff]; simp [h]
    · rename_i h; simp [h]
theorem trimB_nil (l : List UInt8) (c : UInt8) : Lib.trimB l c = [] ↔ ∀ x ∈ l, x = c := by
  unfold Lib.trimB Lib.trimLeftB Lib.trimRightB
  rw [dropWhile_nil_iff]
  constructor
  · intro h x hx
    cases hd : l.reverse.dropWhile (· == c) with
    | nil => rw [dropWhile_nil_iff] at hd; simpa using hd x (List.mem_reverse.2 hx)
    | cons y r =>
      have h1 := h y (by rw [hd]; simp)
      have h2 := List.head?_dropWhile_not (· == c) l.reverse
      rw [hd] at h2
      simp at h1 h2
      exact absurd h1 h2
  · intro h x hx
    have hx1 := List.mem_reverse.1 hx
    have hx2 := List.mem_reverse.1 ((List.dropWhile_sublist _).mem hx1)
    simpa using h x hx2
/-- A number out of a sector. -/
def tk (s : List UInt8) (a b : Nat) : Int := IntKind.i64.wrap (val ((s.take b).drop a) : Int)
def bn (s : List UInt8) (i : Nat) : Nat := (s.getD i 0).toNat
/-- The first segments of a checkpoint. -/
def ckSegs (s : List UInt8) (segs : Nat) : Nat → Option (List (Nat × Nat))
  | 0 => some []
  | i + 1 => (ckSegs s segs i).bind fun acc =>
    if (segs : Int) ≤ byt s (26 + 2 * i) then none else if (16 : Int) < byt s (27 + 2 * i) then none
    else if acc.any (fun y => decide ((y.1 : Int) = byt s (26 + 2 * i))) = true then none else some (acc ++ [(bn s (26 + 2 * i), bn s (27 + 2 * i))])
theorem ckSegs_none {s : List UInt8} {segs i : Nat} (h : ckSegs s segs i = none) : ∀ k, ckSegs s segs (i + k) = none
  | 0 => h
  | k + 1 => by rw [← Nat.add_assoc, ckSegs, ckSegs_none h k]; rfl
theorem ckSegs_length {s : List UInt8} {segs : Nat} : ∀ {i : Nat} {l : List (Nat × Nat)}, ckSegs s segs i = some l → l.length = i
  | 0, l, h => by cases h; rfl
  | i + 1, l, h => by
    rw [ckSegs] at h
    cases hc : ckSegs s segs i with
    | none => rw [hc] at h; cases h
    | some acc =>
      rw [hc] at h
      simp only [Option.bind_some] at h
      have := ckSegs_length hc
      split at h; cases h
      split at h; cases h
      split at h; cases h
      cases h
      simp [this]
/-- The checkpoint of a sector. -/
def ckOf (s : List UInt8) (segs : Nat) : Option Ck :=
  if byt s 0 ≠ 67 then none else if (!fitsB [tk s 1 9, tk s 9 17, tk s 17 25]) = true then none else if byt s 25 < 1 then none else if (segs : Int) < byt s 25 then none
  else match ckSegs s segs (bn s 25) with
    | none => none
    | some l => if Lib.trimB (s.drop (26 + 2 * bn s 25)) 0 ≠ [] then none else some ⟨(tk s 1 9).toNat, (tk s 9 17).toNat, (tk s 17 25).toNat, l⟩
theorem ckOf_segs {s : List UInt8} {segs i : Nat} (hi : i ≤ bn s 25) (h : ckSegs s segs i = none) : ckOf s segs = none := by
  have := ckSegs_none h (bn s 25 - i)
  rw [show i + (bn s 25 - i) = bn s 25 by omega] at this
  unfold ckOf
  rw [this]
  simp
abbrev ckZero : Value := .agg #[.int .i64 0, .int .i64 0, .int .i64 0, .slice none 0 0]
def CkR (s : List UInt8) (segs : Nat) (u : Value) (cs : List Chunk) : Prop :=
  (ckOf s segs = none ∧ u = .tuple #[ckZero, .bool false] ∧ cs = []) ∨ (∃ c v, ckOf s segs = some c ∧ u = .tuple #[c.val v, .bool true] ∧ cs = [c.sl v])

theorem seglog_checkpointOf_fn (s : List UInt8) (segs : Nat) (hs : s.length = 256) (hn : segs ≤ 64) : Does P F_seglog_checkpointOf [S s, .int .i64 (segs : Int)] [] (CkR s segs) := by
  refine Does.mk (N := 96) fn_seglog_checkpointOf rfl rfl rfl (fun F => ?_)
  simp only [List.cons_append, List.nil_append]
  have hb0 := byt_range s 25
  have hbn : byt s 25 = (bn s 25 : Int) := rfl
  refine XC.seq ?_
  refine XC.reg ?_
  refine XL.al z_seglog_checkpoint rfl (fun b4 => ?_)
  refine XL.as rfl rfl ?_
  refine XL.nil ?_
  refine XQ.thenN ?_
  refine XC.seq ?_
  refine XC.drw (.q 0 <| .q 1 <| .q 2 <| .q 3 <| .q 4 <| .q 5 <| .q 6 <| .q 7 <| .q 8 <| .q 9 <| .e 10 <| .r 0 <| .r 1 <| .r 2 <| .r 3 <| .r 4 <| .r 5 <| .r 6 <| .r 7 <| .r 8 <| .r 9 <| .e 11 <| .done) mixed (by kernel_rfl) rfl ?_
  refine JP.qq rfl rfl rfl (XL.mv rfl rfl XL.qd) ?_
  refine JP.qq rfl rfl rfl (XL.slT 1 (9) u_string rfl (⟨_, rfl⟩) (⟨_, rfl⟩) (by omega) (by omega) rfl XL.qd) ?_
  refine JP.qq rfl rfl rfl (XL.call hb_seglog_taken rfl rfl (seglog_taken_fn ((s.take 9).drop 1) (by simp; omega)) (tn) (by rintro _ _ ⟨rfl, rfl⟩; exact XL.qdp (fun w h => h))) ?_
  refine JP.qq rfl rfl rfl (XL.mv rfl rfl XL.qd) ?_
  refine JP.qq rfl rfl rfl (XL.slT 9 (17) u_string rfl (⟨_, rfl⟩) (⟨_, rfl⟩) (by omega) (by omega) rfl XL.qd) ?_
  refine JP.qq rfl rfl rfl (XL.call hb_seglog_taken rfl rfl (seglog_taken_fn ((s.take 17).drop 9) (by simp; omega)) (tn) (by rintro _ _ ⟨rfl, rfl⟩; exact XL.qdp (fun w h => h))) ?_
  refine JP.qq rfl rfl rfl (XL.mv rfl rfl XL.qd) ?_
  refine JP.qq rfl rfl rfl (XL.slT 17 (25) u_string rfl (⟨_, rfl⟩) (⟨_, rfl⟩) (by omega) (by omega) rfl XL.qd) ?_
  refine JP.qq rfl rfl rfl (XL.call hb_seglog_taken rfl rfl (seglog_taken_fn ((s.take 25).drop 17) (by simp; omega)) (tn) (by rintro _ _ ⟨rfl, rfl⟩; exact XL.qdp (fun w h => h))) ?_
  refine JP.qq rfl rfl rfl (XL.bd z_seglog_checkpoint p_seglog_checkpoint rfl rfl XL.qd) ?_
  refine JP.ee rfl ?_
  refine XL.al z_seglog_checkpoint rfl (fun b6 => ?_)
  refine XL.ed ?_
  refine JP.rr rfl rfl rfl (XL.mv rfl rfl XL.qd) ?_
  refine JP.rr rfl rfl rfl (XL.slT 1 (9) u_string rfl (⟨_, rfl⟩) (⟨_, rfl⟩) (by omega) (by omega) rfl XL.qd) ?_
  refine JP.rr rfl rfl rfl (XL.call hb_seglog_taken rfl rfl (seglog_taken_fn ((s.take 9).drop 1) (by simp; omega)) (tn) (by rintro _ _ ⟨rfl, rfl⟩; exact XL.qdp (fun w h => h))) ?_
  refine JP.rr rfl rfl rfl (XL.mv rfl rfl XL.qd) ?_
  refine JP.rr rfl rfl rfl (XL.slT 9 (17) u_string rfl (⟨_, rfl⟩) (⟨_, rfl⟩) (by omega) (by omega) rfl XL.qd) ?_
  refine JP.rr rfl rfl rfl (XL.call hb_seglog_taken rfl rfl (seglog_taken_fn ((s.take 17).drop 9) (by simp; omega)) (tn) (by rintro _ _ ⟨rfl, rfl⟩; exact XL.qdp (fun w h => h))) ?_
  refine JP.rr rfl rfl rfl (XL.mv rfl rfl XL.qd) ?_
  refine JP.rr rfl rfl rfl (XL.slT 17 (25) u_string rfl (⟨_, rfl⟩) (⟨_, rfl⟩) (by omega) (by omega) rfl XL.qd) ?_
  refine JP.rr rfl rfl rfl (XL.call hb_seglog_taken rfl rfl (seglog_taken_fn ((s.take 25).drop 17) (by simp; omega)) (tn) (by rintro _ _ ⟨rfl, rfl⟩; exact XL.qdp (fun w h => h))) ?_
  refine JP.rr rfl rfl rfl (XL.bd z_seglog_checkpoint p_seglog_checkpoint rfl rfl XL.qd) ?_
  refine JP.ee rfl ?_
  refine XL.stM g_seglog_checkpoint rfl rfl rfl (by rfl) rfl ?_
  refine XL.edn ?_
  refine JP.done ?_
  refine XQ.thenN ?_
  refine XC.seq ?_
  refine XC.reg ?_
  refine XL.mv rfl rfl ?_
  refine XL.ixT 25 u_string rfl rfl rfl (by omega) rfl ?_
  first | refine XL.cvI u_uint8 u_int rfl (IntWalk.i64_in _ (by omega)) rfl ?_ | refine XL.cvI u_uint8 u_int rfl rfl rfl ?_
  refine XL.as rfl rfl ?_
  refine XL.nil ?_
  refine XQ.thenN ?_
  refine XC.seq ?_
  refine XC.seq ?_
  refine XC.reg ?_
  refine XL.mv rfl rfl ?_
  refine XL.ixT 0 u_string rfl rfl rfl (by omega) rfl ?_
  refine XL.bin rfl rfl rfl (bNeI) ?_
  refine XL.mv rfl rfl ?_
  refine XL.split 26 rfl (fun hg26 => ?_) (fun hg26 => ?_)
  · refine XL.no rfl rfl ?_
    refine XL.no rfl rfl ?_
    refine XL.no rfl rfl ?_
    refine XL.no rfl rfl ?_
    refine XL.no rfl rfl ?_
    refine XL.no rfl rfl ?_
    refine XL.no rfl rfl ?_
    refine XL.no rfl rfl ?_
    refine XL.no rfl rfl ?_
    refine XL.pkT rfl rfl rfl ?_
    refine XL.mv rfl rfl ?_
    refine XL.no rfl rfl ?_
    refine XL.no rfl rfl ?_
    refine XL.pkT rfl rfl rfl ?_
    refine XL.mv rfl rfl ?_
    refine XL.no rfl rfl ?_
    refine XL.no rfl rfl ?_
    refine XL.no rfl rfl ?_
    refine XL.pkT rfl rfl rfl ?_
    refine XL.nil ?_
    refine XQ.thenN ?_
    refine XC.condT rfl ?_
    refine XC.seq ?_
    refine XC.reg ?_
    refine XL.bd z_seglog_checkpoint p_seglog_checkpoint rfl rfl ?_
    refine XL.stM g_seglog_checkpoint rfl rfl rfl (by rfl) rfl ?_
    refine XL.as rfl rfl ?_
    refine XL.nil ?_
    refine XQ.thenN ?_
    refine XC.ret ?_
    refine XQ.thenR ?_
    exact XQ.ret (.inl rfl) rfl (rC (resN g_seglog_checkpoint rfl rfl rfl) <| rC (resT rfl) <| rN) [] (by first | exact .inl ⟨by unfold ckOf; first | (rw [if_pos (by assumption)]; done) | (rw [if_neg (by assumption), if_pos (by assumption)]; done) | (rw [if_neg (by assumption), if_neg (by simpa using hg37), if_pos (by assumption)]; done) | (rw [if_neg (by assumption), if_neg (by simpa using hg37), if_neg (by assumption), if_pos (by assumption)]; done), rfl, rfl⟩ | exact .inl ⟨ckOf_segs (i := z.1 + 1) (by omega) (by rw [ckSegs, hz.2, Option.bind_some]; first | (rw [if_pos (by assumption)]; done) | (rw [if_neg (by assumption), if_pos (by assumption)]; done) | (rw [if_neg (by assumption), if_neg (by assumption), if_pos (by assumption)]; done)), rfl, rfl⟩ | exact .inl ⟨by unfold ckOf; rw [if_neg (by assumption), if_neg (by simpa using hg37), if_neg (by assumption), if_neg (by assumption), ← hze, hz.2]; simp only []; rw [List.take_of_length_le (Nat.le_refl _)] at hc3; rw [if_pos hc3], rfl, rfl⟩) (fun w h => by first | exact Take.sat (t2.c tn) h | exact Take.sat (t3.c tn) h | exact Take.sat (t4.c tn) h | exact Take.sat (t5.c tn) h | exact Take.sat (t6.c tn) h)
  · refine XL.fa fo_seglog_checkpoint_0 rfl rfl ?_
    refine XL.ld o_int rfl (by rfl) rfl ?_
    refine XL.fa fo_seglog_checkpoint_1 rfl rfl ?_
    refine XL.ld o_int rfl (by rfl) rfl ?_
    refine XL.fa fo_seglog_checkpoint_2 rfl rfl ?_
    refine XL.ld o_int rfl (by rfl) rfl ?_
    refine XL.bs (enc := encI) [tk s 1 9, tk s 9 17, tk s 17 25] e_L_int z_int rfl rfl rfl (by intro x hx; rfl) rfl (fun v33 _ => ?_)
    refine XL.call hb_seglog_fits rfl rfl (seglog_fits_fn v33 [tk s 1 9, tk s 9 17, tk s 17 25] (by simp)) (t0.c tn) ?_
    rintro _ _ ⟨rfl, rfl⟩
    simp only [List.cons_append, List.nil_append]
    refine XL.notT rfl rfl ?_
    refine XL.pkF rfl rfl rfl ?_
    refine XL.mv rfl rfl ?_
    refine XL.splitB 37 rfl (fun hg37 => ?_) (fun hg37 => ?_)
    · refine XL.no rfl rfl ?_
      refine XL.no rfl rfl ?_
      refine XL.pkT rfl rfl rfl ?_
      refine XL.mv rfl rfl ?_
      refine XL.no rfl rfl ?_
      refine XL.no rfl rfl ?_
      refine XL.no rfl rfl ?_
      refine XL.pkT rfl rfl rfl ?_
      refine XL.nil ?_
      refine XQ.thenN ?_
      refine XC.condT rfl ?_
      refine XC.seq ?_
      refine XC.reg ?_
      refine XL.bd z_seglog_checkpoint p_seglog_checkpoint rfl rfl ?_
      refine XL.stM g_seglog_checkpoint rfl rfl rfl (by rfl) rfl ?_
      refine XL.as rfl rfl ?_
      refine XL.nil ?_
      refine XQ.thenN ?_
      refine XC.ret ?_
      refine XQ.thenR ?_
      exact XQ.ret (.inl rfl) rfl (rC (resN g_seglog_checkpoint rfl rfl rfl) <| rC (resT rfl) <| rN) [] (by first | exact .inl ⟨by unfold ckOf; first | (rw [if_pos (by assumption)]; done) | (rw [if_neg (by assumption), if_pos (by assumption)]; done) | (rw [if_neg (by assumption), if_neg (by simpa using hg37), if_pos (by assumption)]; done) | (rw [if_neg (by assumption), if_neg (by simpa using hg37), if_neg (by assumption), if_pos (by assumption)]; done), rfl, rfl⟩ | exact .inl ⟨ckOf_segs (i := z.1 + 1) (by omega) (by rw [ckSegs, hz.2, Option.bind_some]; first | (rw [if_pos (by assumption)]; done) | (rw [if_neg (by assumption), if_pos (by assumption)]; done) | (rw [if_neg (by assumption), if_neg (by assumption), if_pos (by assumption)]; done)), rfl, rfl⟩ | exact .inl ⟨by unfold ckOf; rw [if_neg (by assumption), if_neg (by simpa using hg37), if_neg (by assumption), if_neg (by assumption), ← hze, hz.2]; simp only []; rw [List.take_of_length_le (Nat.le_refl _)] at hc3; rw [if_pos hc3], rfl, rfl⟩) (fun w h => by first | exact Take.sat (t2.c tn) h | exact Take.sat (t3.c tn) h | exact Take.sat (t4.c tn) h | exact Take.sat (t5.c tn) h | exact Take.sat (t6.c tn) h)
    · refine XL.mv rfl rfl ?_
      refine XL.bin rfl rfl rfl (bLss) ?_
      refine XL.pkF rfl rfl rfl ?_
      refine XL.mv rfl rfl ?_
      refine XL.split 41 rfl (fun hg41 => ?_) (fun hg41 => ?_)
      · refine XL.no rfl rfl ?_
        refine XL.no rfl rfl ?_
        refine XL.no rfl rfl ?_
        refine XL.pkT rfl rfl rfl ?_
        refine XL.nil ?_
        refine XQ.thenN ?_
        refine XC.condT rfl ?_
        refine XC.seq ?_
        refine XC.reg ?_
        refine XL.bd z_seglog_checkpoint p_seglog_checkpoint rfl rfl ?_
        refine XL.stM g_seglog_checkpoint rfl rfl rfl (by rfl) rfl ?_
        refine XL.as rfl rfl ?_
        refine XL.nil ?_
        refine XQ.thenN ?_
        refine XC.ret ?_
        refine XQ.thenR ?_
        exact XQ.ret (.inl rfl) rfl (rC (resN g_seglog_checkpoint rfl rfl rfl) <| rC (resT rfl) <| rN) [] (by first | exact .inl ⟨by unfold ckOf; first | (rw [if_pos (by assumption)]; done) | (rw [if_neg (by assumption), if_pos (by assumption)]; done) | (rw [if_neg (by assumption), if_neg (by simpa using hg37), if_pos (by assumption)]; done) | (rw [if_neg (by assumption), if_neg (by simpa using hg37), if_neg (by assumption), if_pos (by assumption)]; done), rfl, rfl⟩ | exact .inl ⟨ckOf_segs (i := z.1 + 1) (by omega) (by rw [ckSegs, hz.2, Option.bind_some]; first | (rw [if_pos (by assumption)]; done) | (rw [if_neg (by assumption), if_pos (by assumption)]; done) | (rw [if_neg (by assumption), if_neg (by assumption), if_pos (by assumption)]; done)), rfl, rfl⟩ | exact .inl ⟨by unfold ckOf; rw [if_neg (by assumption), if_neg (by simpa using hg37), if_neg (by assumption), if_neg (by assumption), ← hze, hz.2]; simp only []; rw [List.take_of_length_le (Nat.le_refl _)] at hc3; rw [if_pos hc3], rfl, rfl⟩) (fun w h => by first | exact Take.sat (t2.c tn) h | exact Take.sat (t3.c tn) h | exact Take.sat (t4.c tn) h | exact Take.sat (t5.c tn) h | exact Take.sat (t6.c tn) h)
      · refine XL.mv rfl rfl ?_
        refine XL.mv rfl rfl ?_
        refine XL.bin rfl rfl rfl (bGtr) ?_
        refine XL.pkF rfl rfl rfl ?_
        refine XL.nil ?_
        refine XQ.thenN ?_
        refine XC.cond rfl (fun hc0 => ?_) (fun hc0 => ?_)
        · refine XC.seq ?_
          refine XC.reg ?_
          refine XL.bd z_seglog_checkpoint p_seglog_checkpoint rfl rfl ?_
          refine XL.stM g_seglog_checkpoint rfl rfl rfl (by rfl) rfl ?_
          refine XL.as rfl rfl ?_
          refine XL.nil ?_
          refine XQ.thenN ?_
          refine XC.ret ?_
          refine XQ.thenR ?_
          exact XQ.ret (.inl rfl) rfl (rC (resN g_seglog_checkpoint rfl rfl rfl) <| rC (resT rfl) <| rN) [] (by first | exact .inl ⟨by unfold ckOf; first | (rw [if_pos (by assumption)]; done) | (rw [if_neg (by assumption), if_pos (by assumption)]; done) | (rw [if_neg (by assumption), if_neg (by simpa using hg37), if_pos (by assumption)]; done) | (rw [if_neg (by assumption), if_neg (by simpa using hg37), if_neg (by assumption), if_pos (by assumption)]; done), rfl, rfl⟩ | exact .inl ⟨ckOf_segs (i := z.1 + 1) (by omega) (by rw [ckSegs, hz.2, Option.bind_some]; first | (rw [if_pos (by assumption)]; done) | (rw [if_neg (by assumption), if_pos (by assumption)]; done) | (rw [if_neg (by assumption), if_neg (by assumption), if_pos (by assumption)]; done)), rfl, rfl⟩ | exact .inl ⟨by unfold ckOf; rw [if_neg (by assumption), if_neg (by simpa using hg37), if_neg (by assumption), if_neg (by assumption), ← hze, hz.2]; simp only []; rw [List.take_of_length_le (Nat.le_refl _)] at hc3; rw [if_pos hc3], rfl, rfl⟩) (fun w h => by first | exact Take.sat (t2.c tn) h | exact Take.sat (t3.c tn) h | exact Take.sat (t4.c tn) h | exact Take.sat (t5.c tn) h | exact Take.sat (t6.c tn) h)
        · refine XC.skip ?_
          refine XQ.thenN ?_
          refine XC.seq ?_
          refine XC.seq ?_
          refine XC.reg ?_
          refine XL.mv rfl rfl ?_
          refine XL.mv rfl rfl ?_
          refine XL.nil ?_
          refine XQ.thenN ?_
          refine XC.block ?_
          have hN : 1 ≤ bn s 25 ∧ bn s 25 ≤ segs := by omega
          refine XC.loop (ι := Nat × List (Nat × Nat) × Value) (fun z => [(0, S s), (1, .int .i64 (segs : Int)), (4, .pointer (some ⟨b4, 0, none⟩)), (6, .pointer (some ⟨b6, 0, none⟩)), (7, .int .i64 (bn s 25 : Int)), (47, .int .i64 (bn s 25 : Int)), (48, .int .i64 (z.1 : Int))])
            (fun z => [blk b6 [.int .i64 (tk s 1 9), .int .i64 (tk s 9 17), .int .i64 (tk s 17 25), z.2.2] T_seglog_checkpoint, blk b4 [.int .i64 0, .int .i64 0, .int .i64 0, .slice none 0 0] T_seglog_checkpoint, segS z.2.2 z.2.1, F])
            (fun z => z.1 ≤ bn s 25 ∧ ckSegs s segs z.1 = some z.2.1) (fun z => bn s 25 - z.1) (0, [], .slice none 0 0) ⟨Nat.zero_le _, rfl⟩ ⟨rfl, rfl, rfl, rfl, rfl, rfl, rfl, trivial⟩ (fun w h => Take.sat (t2.c <| t2.c <| t0.c <| t1.c tn) (sl_nil (enc := encG) (e := T_seglog_Segment) (sz := 2) h)) (fun z hz => ?_)
          refine XC.seq ?_
          refine XC.reg ?_
          refine XL.bin rfl rfl rfl (bLss) ?_
          refine XL.nil ?_
          refine XQ.thenN ?_
          refine XC.seq ?_
          refine XC.cond rfl (fun hc1 => ?_) (fun hc1 => ?_)
          · have hlt : z.1 < bn s 25 := by omega
            have hzl := ckSegs_length hz.2
            have hb1 := byt_range s (26 + 2 * z.1)
            have hb2 := byt_range s (27 + 2 * z.1)
            refine XC.skip ?_
            refine XQ.thenN ?_
            refine XC.seq ?_
            refine XC.block ?_
            refine XC.seq ?_
            refine XC.reg ?_
            refine XL.mv rfl rfl ?_
            refine XL.as rfl rfl ?_
            refine XL.nil ?_
            refine XQ.thenN ?_
            refine XC.seq ?_
            refine XC.drw (.q 0 <| .q 1 <| .q 2 <| .q 3 <| .q 4 <| .q 5 <| .q 6 <| .q 7 <| .q 8 <| .q 9 <| .q 10 <| .q 11 <| .q 12 <| .e 13 <| .r 0 <| .r 1 <| .r 2 <| .r 3 <| .r 4 <| .r 5 <| .r 6 <| .r 7 <| .r 8 <| .r 9 <| .r 10 <| .r 11 <| .r 12 <| .e 14 <| .done) mixed (by kernel_rfl) rfl ?_
            refine JP.qq rfl rfl rfl (XL.mv rfl rfl XL.qd) ?_
            refine JP.qq rfl rfl rfl (XL.mv rfl rfl XL.qd) ?_
            refine JP.qq rfl rfl rfl (XL.bin rfl rfl rfl (bMul (by omega)) XL.qd) ?_
            refine JP.qq rfl rfl rfl (XL.bin rfl rfl rfl (bAdd (by omega)) XL.qd) ?_
            refine JP.qq rfl rfl rfl (XL.ixT (26 + 2 * z.1) u_string rfl rfl (by omega) (by omega) rfl XL.qd) ?_
            refine JP.qq rfl rfl rfl (XL.cvI u_uint8 u_int rfl (IntWalk.i64_in _ (by omega)) rfl XL.qd) ?_
            refine JP.qq rfl rfl rfl (XL.mv rfl rfl XL.qd) ?_
            refine JP.qq rfl rfl rfl (XL.mv rfl rfl XL.qd) ?_
            refine JP.qq rfl rfl rfl (XL.bin rfl rfl rfl (bMul (by omega)) XL.qd) ?_
            refine JP.qq rfl rfl rfl (XL.bin rfl rfl rfl (bAdd (by omega)) XL.qd) ?_
            refine JP.qq rfl rfl rfl (XL.ixT (27 + 2 * z.1) u_string rfl rfl (by omega) (by omega) rfl XL.qd) ?_
            refine JP.qq rfl rfl rfl (XL.cvI u_uint8 u_int rfl (IntWalk.i64_in _ (by omega)) rfl XL.qd) ?_
            refine JP.qq rfl rfl rfl (XL.bd z_seglog_Segment p_seglog_Segment rfl rfl XL.qd) ?_
            refine JP.ee rfl ?_
            refine XL.al z_seglog_Segment rfl (fun b9 => ?_)
            refine XL.ed ?_
            refine JP.rr rfl rfl rfl (XL.mv rfl rfl XL.qd) ?_
            refine JP.rr rfl rfl rfl (XL.mv rfl rfl XL.qd) ?_
            refine JP.rr rfl rfl rfl (XL.bin rfl rfl rfl (bMul (by omega)) XL.qd) ?_
            refine JP.rr rfl rfl rfl (XL.bin rfl rfl rfl (bAdd (by omega)) XL.qd) ?_
            refine JP.rr rfl rfl rfl (XL.ixT (26 + 2 * z.1) u_string rfl rfl (by omega) (by omega) rfl XL.qd) ?_
            refine JP.rr rfl rfl rfl (XL.cvI u_uint8 u_int rfl (IntWalk.i64_in _ (by omega)) rfl XL.qd) ?_
            refine JP.rr rfl rfl rfl (XL.mv rfl rfl XL.qd) ?_
            refine JP.rr rfl rfl rfl (XL.mv rfl rfl XL.qd) ?_
            refine JP.rr rfl rfl rfl (XL.bin rfl rfl rfl (bMul (by omega)) XL.qd) ?_
            refine JP.rr rfl rfl rfl (XL.bin rfl rfl rfl (bAdd (by omega)) XL.qd) ?_
            refine JP.rr rfl rfl rfl (XL.ixT (27 + 2 * z.1) u_string rfl rfl (by omega) (by omega) rfl XL.qd) ?_
            refine JP.rr rfl rfl rfl (XL.cvI u_uint8 u_int rfl (IntWalk.i64_in _ (by omega)) rfl XL.qd) ?_
            refine JP.rr rfl rfl rfl (XL.bd z_seglog_Segment p_seglog_Segment rfl rfl XL.qd) ?_
            refine JP.ee rfl ?_
            refine XL.stM g_seglog_Segment rfl rfl rfl (by rfl) rfl ?_
            refine XL.edn ?_
            refine JP.done ?_
            refine XQ.thenN ?_
            refine XC.seq ?_
            refine XC.seq ?_
            refine XC.reg ?_
            refine XL.fa fo_seglog_Segment_0 rfl rfl ?_
            refine XL.ld o_int rfl (by rfl) rfl ?_
            refine XL.mv rfl rfl ?_
            refine XL.bin rfl rfl rfl (bGeq) ?_
            refine XL.mv rfl rfl ?_
            refine XL.split 68 rfl (fun hg68 => ?_) (fun hg68 => ?_)
            · refine XL.no rfl rfl ?_
              refine XL.no rfl rfl ?_
              refine XL.no rfl rfl ?_
              refine XL.pkT rfl rfl rfl ?_
              refine XL.mv rfl rfl ?_
              refine XL.no rfl rfl ?_
              refine XL.no rfl rfl ?_
              refine XL.no rfl rfl ?_
              refine XL.no rfl rfl ?_
              refine XL.pkT rfl rfl rfl ?_
              refine XL.nil ?_
              refine XQ.thenN ?_
              refine XC.condT rfl ?_
              refine XC.seq ?_
              refine XC.reg ?_
              refine XL.bd z_seglog_checkpoint p_seglog_checkpoint rfl rfl ?_
              refine XL.stM g_seglog_checkpoint rfl rfl rfl (by rfl) rfl ?_
              refine XL.as rfl rfl ?_
              refine XL.nil ?_
              refine XQ.thenN ?_
              refine XC.ret ?_
              refine XQ.thenR ?_
              refine XQ.blkR ?_
              refine XQ.thenR ?_
              refine XQ.thenR ?_
              refine XQ.blkR ?_
              refine XQ.thenR ?_
              exact XQ.ret (.inl rfl) rfl (rC (resN g_seglog_checkpoint rfl rfl rfl) <| rC (resT rfl) <| rN) [] (by first | exact .inl ⟨by unfold ckOf; first | (rw [if_pos (by assumption)]; done) | (rw [if_neg (by assumption), if_pos (by assumption)]; done) | (rw [if_neg (by assumption), if_neg (by simpa using hg37), if_pos (by assumption)]; done) | (rw [if_neg (by assumption), if_neg (by simpa using hg37), if_neg (by assumption), if_pos (by assumption)]; done), rfl, rfl⟩ | exact .inl ⟨ckOf_segs (i := z.1 + 1) (by omega) (by rw [ckSegs, hz.2, Option.bind_some]; first | (rw [if_pos (by assumption)]; done) | (rw [if_neg (by assumption), if_pos (by assumption)]; done) | (rw [if_neg (by assumption), if_neg (by assumption), if_pos (by assumption)]; done)), rfl, rfl⟩ | exact .inl ⟨by unfold ckOf; rw [if_neg (by assumption), if_neg (by simpa using hg37), if_neg (by assumption), if_neg (by assumption), ← hze, hz.2]; simp only []; rw [List.take_of_length_le (Nat.le_refl _)] at hc3; rw [if_pos hc3], rfl, rfl⟩) (fun w h => by first | exact Take.sat (t2.c tn) h | exact Take.sat (t3.c tn) h | exact Take.sat (t4.c tn) h | exact Take.sat (t5.c tn) h | exact Take.sat (t6.c tn) h)
            · refine XL.fa fo_seglog_Segment_1 rfl rfl ?_
              refine XL.ld o_int rfl (by rfl) rfl ?_
              refine XL.bin rfl rfl rfl (bGtr) ?_
              refine XL.pkF rfl rfl rfl ?_
              refine XL.mv rfl rfl ?_
              refine XL.split 73 rfl (fun hg73 => ?_) (fun hg73 => ?_)
              · refine XL.no rfl rfl ?_
                refine XL.no rfl rfl ?_
                refine XL.no rfl rfl ?_
                refine XL.no rfl rfl ?_
                refine XL.pkT rfl rfl rfl ?_
                refine XL.nil ?_
                refine XQ.thenN ?_
                refine XC.condT rfl ?_
                refine XC.seq ?_
                refine XC.reg ?_
                refine XL.bd z_seglog_checkpoint p_seglog_checkpoint rfl rfl ?_
                refine XL.stM g_seglog_checkpoint rfl rfl rfl (by rfl) rfl ?_
                refine XL.as rfl rfl ?_
                refine XL.nil ?_
                refine XQ.thenN ?_
                refine XC.ret ?_
                refine XQ.thenR ?_
                refine XQ.blkR ?_
                refine XQ.thenR ?_
                refine XQ.thenR ?_
                refine XQ.blkR ?_
                refine XQ.thenR ?_
                exact XQ.ret (.inl rfl) rfl (rC (resN g_seglog_checkpoint rfl rfl rfl) <| rC (resT rfl) <| rN) [] (by first | exact .inl ⟨by unfold ckOf; first | (rw [if_pos (by assumption)]; done) | (rw [if_neg (by assumption), if_pos (by assumption)]; done) | (rw [if_neg (by assumption), if_neg (by simpa using hg37), if_pos (by assumption)]; done) | (rw [if_neg (by assumption), if_neg (by simpa using hg37), if_neg (by assumption), if_pos (by assumption)]; done), rfl, rfl⟩ | exact .inl ⟨ckOf_segs (i := z.1 + 1) (by omega) (by rw [ckSegs, hz.2, Option.bind_some]; first | (rw [if_pos (by assumption)]; done) | (rw [if_neg (by assumption), if_pos (by assumption)]; done) | (rw [if_neg (by assumption), if_neg (by assumption), if_pos (by assumption)]; done)), rfl, rfl⟩ | exact .inl ⟨by unfold ckOf; rw [if_neg (by assumption), if_neg (by simpa using hg37), if_neg (by assumption), if_neg (by assumption), ← hze, hz.2]; simp only []; rw [List.take_of_length_le (Nat.le_refl _)] at hc3; rw [if_pos hc3], rfl, rfl⟩) (fun w h => by first | exact Take.sat (t2.c tn) h | exact Take.sat (t3.c tn) h | exact Take.sat (t4.c tn) h | exact Take.sat (t5.c tn) h | exact Take.sat (t6.c tn) h)
              · refine XL.fa fo_seglog_checkpoint_3 rfl rfl ?_
                refine XL.ld o_L_seglog_Segment rfl (by rfl) rfl ?_
                refine XL.mkf (vf := []) rfl (vc := [_]) rfl rfl ?_
                refine XL.call hb_slices_ContainsFunc_L_seglog_Segment_seglog_Segment rfl rfl (slices_ContainsFunc_L_seglog_Segment_seglog_Segment_fn z.2.2 (.pointer (some ⟨b9, 0, none⟩)) z.2.1 F_seglog_checkpointOf_c1 (blk b9 [.int .i64 (byt s (26 + 2 * z.1)), .int .i64 (byt s (27 + 2 * z.1))] T_seglog_Segment) (fun y => decide ((y.1 : Int) = byt s (26 + 2 * z.1))) hb_seglog_checkpointOf_c1 (by omega) (fun x => seglog_checkpointOf_c1_fn x b9 _ _)) (t3.c <| t0.c tn) ?_
                rintro _ _ ⟨rfl, rfl⟩
                simp only [List.cons_append, List.nil_append]
                refine XL.pkF rfl rfl rfl ?_
                refine XL.nil ?_
                refine XQ.thenN ?_
                refine XC.condB rfl (fun hc2 => ?_) (fun hc2 => ?_)
                · refine XC.seq ?_
                  refine XC.reg ?_
                  refine XL.bd z_seglog_checkpoint p_seglog_checkpoint rfl rfl ?_
                  refine XL.stM g_seglog_checkpoint rfl rfl rfl (by rfl) rfl ?_
                  refine XL.as rfl rfl ?_
                  refine XL.nil ?_
                  refine XQ.thenN ?_
                  refine XC.ret ?_
                  refine XQ.thenR ?_
                  refine XQ.blkR ?_
                  refine XQ.thenR ?_
                  refine XQ.thenR ?_
                  refine XQ.blkR ?_
                  refine XQ.thenR ?_
                  exact XQ.ret (.inl rfl) rfl (rC (resN g_seglog_checkpoint rfl rfl rfl) <| rC (resT rfl) <| rN) [] (by first | exact .inl ⟨by unfold ckOf; first | (rw [if_pos (by assumption)]; done) | (rw [if_neg (by assumption), if_pos (by assumption)]; done) | (rw [if_neg (by assumption), if_neg (by simpa using hg37), if_pos (by assumption)]; done) | (rw [if_neg (by assumption), if_neg (by simpa using hg37), if_neg (by assumption), if_pos (by assumption)]; done), rfl, rfl⟩ | exact .inl ⟨ckOf_segs (i := z.1 + 1) (by omega) (by rw [ckSegs, hz.2, Option.bind_some]; first | (rw [if_pos (by assumption)]; done) | (rw [if_neg (by assumption), if_pos (by assumption)]; done) | (rw [if_neg (by assumption), if_neg (by assumption), if_pos (by assumption)]; done)), rfl, rfl⟩ | exact .inl ⟨by unfold ckOf; rw [if_neg (by assumption), if_neg (by simpa using hg37), if_neg (by assumption), if_neg (by assumption), ← hze, hz.2]; simp only []; rw [List.take_of_length_le (Nat.le_refl _)] at hc3; rw [if_pos hc3], rfl, rfl⟩) (fun w h => by first | exact Take.sat (t2.c tn) h | exact Take.sat (t3.c tn) h | exact Take.sat (t4.c tn) h | exact Take.sat (t5.c tn) h | exact Take.sat (t6.c tn) h)
                · have hnext : ckSegs s segs (z.1 + 1) = some (z.2.1 ++ [(bn s (26 + 2 * z.1), bn s (27 + 2 * z.1))]) := by rw [ckSegs, hz.2, Option.bind_some, if_neg (by assumption), if_neg (by assumption), if_neg (by simpa using hc2)]
                  refine XC.skip ?_
                  refine XQ.thenN ?_
                  refine XC.reg ?_
                  refine XL.fa fo_seglog_checkpoint_3 rfl rfl ?_
                  refine XL.ld o_L_seglog_Segment rfl (by rfl) rfl ?_
                  refine XL.ldM g_seglog_Segment rfl (by rfl) rfl ?_
                  refine XL.bs (enc := encG) [(bn s (26 + 2 * z.1), bn s (27 + 2 * z.1))] e_L_seglog_Segment z_seglog_Segment rfl rfl rfl (by intro x hx; rfl) rfl (fun v83 _ => ?_)
                  refine XL.app [(bn s (26 + 2 * z.1), bn s (27 + 2 * z.1))] e_L_seglog_Segment e_L_seglog_Segment z_seglog_Segment rfl rfl rfl rfl (fun x _ => encG_one x) (by first | omega | (simp [numB_length] <;> omega)) rfl (fun v84 _ => ?_)
                  refine XL.fa fo_seglog_checkpoint_3 rfl rfl ?_
                  refine XL.st o_L_seglog_Segment rfl rfl rfl ?_
                  refine XL.nil ?_
                  refine XQ.blkN ?_
                  refine XQ.thenN ?_
                  refine XC.reg ?_
                  refine XL.bin rfl rfl rfl (bAdd (by omega)) ?_
                  refine XL.mv rfl rfl ?_
                  refine XL.nil ?_
                  exact XQ.again (z.1 + 1, z.2.1 ++ [(bn s (26 + 2 * z.1), bn s (27 + 2 * z.1))], v84) ⟨by omega, hnext⟩ (by dsimp only; omega) ⟨rfl, rfl, rfl, rfl, rfl, rfl, rfl, trivial⟩ (fun w h => Take.sat (t3.c <| t3.c <| t0.c <| t2.c tn) h)
          · have hze : z.1 = bn s 25 := by omega
            refine XC.exit ?_
            refine XQ.thenE ?_
            refine XQ.thenE ?_
            refine XQ.blkE ?_
            refine XQ.thenN ?_
            refine XC.seq ?_
            refine XC.seq ?_
            refine XC.reg ?_
            refine XL.mv rfl rfl ?_
            refine XL.mv rfl rfl ?_
            refine XL.bin rfl rfl rfl (bMul (by omega)) ?_
            refine XL.bin rfl rfl rfl (bAdd (by omega)) ?_
            refine XL.re 90 (u := .int .i64 ((26 + 2 * z.1 : Nat) : Int)) rfl (congrArg (Value.int .i64) (by omega)) ?_
            refine XL.slT (26 + 2 * z.1) s.length u_string rfl ⟨_, rfl⟩ rfl (by omega) (by omega) rfl ?_
            refine XL.call hb_strings_Trim rfl rfl (strings_Trim_fn ((s.take s.length).drop (26 + 2 * z.1)) 0 (by decide) (by simp; omega)) (tn) ?_
            rintro _ _ ⟨rfl, rfl⟩
            simp only [List.cons_append, List.nil_append]
            refine XL.bin rfl rfl rfl (bNeS) ?_
            refine XL.nil ?_
            refine XQ.thenN ?_
            refine XC.cond rfl (fun hc3 => ?_) (fun hc3 => ?_)
            · refine XC.seq ?_
              refine XC.reg ?_
              refine XL.bd z_seglog_checkpoint p_seglog_checkpoint rfl rfl ?_
              refine XL.stM g_seglog_checkpoint rfl rfl rfl (by rfl) rfl ?_
              refine XL.as rfl rfl ?_
              refine XL.nil ?_
              refine XQ.thenN ?_
              refine XC.ret ?_
              refine XQ.thenR ?_
              exact XQ.ret (.inl rfl) rfl (rC (resN g_seglog_checkpoint rfl rfl rfl) <| rC (resT rfl) <| rN) [] (by first | exact .inl ⟨by unfold ckOf; first | (rw [if_pos (by assumption)]; done) | (rw [if_neg (by assumption), if_pos (by assumption)]; done) | (rw [if_neg (by assumption), if_neg (by simpa using hg37), if_pos (by assumption)]; done) | (rw [if_neg (by assumption), if_neg (by simpa using hg37), if_neg (by assumption), if_pos (by assumption)]; done), rfl, rfl⟩ | exact .inl ⟨ckOf_segs (i := z.1 + 1) (by omega) (by rw [ckSegs, hz.2, Option.bind_some]; first | (rw [if_pos (by assumption)]; done) | (rw [if_neg (by assumption), if_pos (by assumption)]; done) | (rw [if_neg (by assumption), if_neg (by assumption), if_pos (by assumption)]; done)), rfl, rfl⟩ | exact .inl ⟨by unfold ckOf; rw [if_neg (by assumption), if_neg (by simpa using hg37), if_neg (by assumption), if_neg (by assumption), ← hze, hz.2]; simp only []; rw [List.take_of_length_le (Nat.le_refl _)] at hc3; rw [if_pos hc3], rfl, rfl⟩) (fun w h => by first | exact Take.sat (t2.c tn) h | exact Take.sat (t3.c tn) h | exact Take.sat (t4.c tn) h | exact Take.sat (t5.c tn) h | exact Take.sat (t6.c tn) h)
            · refine XC.skip ?_
              refine XQ.thenN ?_
              refine XC.seq ?_
              have hf : (((tk s 1 9).toNat : Int) = tk s 1 9) ∧ (((tk s 9 17).toNat : Int) = tk s 9 17) ∧ (((tk s 17 25).toNat : Int) = tk s 17 25) := by have : fitsB [tk s 1 9, tk s 9 17, tk s 17 25] = true := (by simpa using hg37); simp only [fitsB, List.all_cons, List.all_nil, Bool.and_eq_true, decide_eq_true_eq] at this; omega
              have hdone : ckOf s segs = some ⟨(tk s 1 9).toNat, (tk s 9 17).toNat, (tk s 17 25).toNat, z.2.1⟩ := by unfold ckOf; rw [if_neg (by assumption), if_neg (by simpa using hg37), if_neg (by assumption), if_neg (by assumption), ← hze, hz.2]; simp only []; rw [List.take_of_length_le (Nat.le_refl _)] at hc3; rw [if_neg hc3]
              refine XC.oneV z.2.2 (fun _ => ?_)
              refine XC.reg ?_
              refine XL.ldM g_seglog_checkpoint rfl (by rfl) rfl ?_
              refine XL.stM g_seglog_checkpoint rfl rfl rfl (by rfl) rfl ?_
              refine XL.as rfl rfl ?_
              refine XL.nil ?_
              refine XQ.thenN ?_
              refine XC.ret ?_
              exact XQ.ret (.inl rfl) rfl (rC (resN g_seglog_checkpoint rfl rfl rfl) <| rC (resT rfl) <| rN) [segS z.2.2 z.2.1] (.inr ⟨⟨(tk s 1 9).toNat, (tk s 9 17).toNat, (tk s 17 25).toNat, z.2.1⟩, z.2.2, hdone, by simp only [Ck.val, hf.1, hf.2.1, hf.2.2]; rfl, rfl⟩) (fun w h => Take.sat (t2.c <| t2.c tn) h)
end Go.Proofs.YthlfbndanknnmaaDoor
