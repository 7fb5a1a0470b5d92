/-
  Package seglog: parts and records. Printed by mk.py out of spec_k05d.py.
-/
import Derived.Test.YthlfbndanknnmaaDoorSxK05c
namespace Go.Proofs.YthlfbndanknnmaaDoor
open Go Go.Sx

theorem val_lt (s : List UInt8) : val s < 256 ^ s.length := by
  have key : ∀ (l : List UInt8) (n k : Nat), n < 256 ^ k → l.foldl (fun n b => n * 256 + b.toNat) n < 256 ^ (k + l.length) := by
    intro l
    induction l with
    | nil => intro n k h; simpa using h
    | cons x l ih =>
      intro n k h
      have h2 : n * 256 + x.toNat < 256 ^ (k + 1) := by
        have := UInt8.toNat_lt x
        rw [Nat.pow_succ]; omega
      have := ih _ (k + 1) h2
      simpa [Nat.add_assoc, Nat.add_comm 1] using this
  have := key s 0 0 (by simp)
  simpa [val] using this
theorem tk_small (s : List UInt8) (a b : Nat) (h : b ≤ a + 2) : 0 ≤ tk s a b ∧ tk s a b ≤ 65535 := by
  have h1 := val_lt ((s.take b).drop a)
  have h2 : ((s.take b).drop a).length ≤ 2 := by simp; omega
  have h3 : 256 ^ ((s.take b).drop a).length ≤ 256 ^ 2 := Nat.pow_le_pow_right (by omega) h2
  unfold tk
  rw [wrap_def]
  split <;> omega
/-- A part of a record. -/
structure Pt where
  boot : Nat
  seq : Nat
  n : Nat
  of : Nat
  body : List UInt8
def ptZ : Pt := ⟨0, 0, 0, 0, []⟩
abbrev Pt.cells (p : Pt) : List Value := [.int .i64 (p.boot : Int), .int .i64 (p.seq : Int), .int .i64 (p.n : Int), .int .i64 (p.of : Int), S p.body]
/-- The part of a sector. -/
def ptOf (s : List UInt8) : Option Pt :=
  if byt s 0 ≠ 82 then none else if (!fitsB [tk s 1 9, tk s 9 17]) = true then none else if tk s 19 21 < 1 then none else if 16 < tk s 19 21 then none
  else if tk s 19 21 ≤ tk s 17 19 then none else if 233 < tk s 21 23 then none
  else some ⟨(tk s 1 9).toNat, (tk s 9 17).toNat, (tk s 17 19).toNat, (tk s 19 21).toNat, (s.take (23 + (tk s 21 23).toNat)).drop 23⟩
theorem ptOf_of {s : List UInt8} {p : Pt} (h : ptOf s = some p) : 1 ≤ p.of ∧ p.of ≤ 16 ∧ p.body.length ≤ 233 ∧ p.n < p.of := by
  have h17 := tk_small s 17 19 (by omega)
  unfold ptOf at h
  split at h; cases h
  split at h; cases h
  split at h; cases h
  split at h; cases h
  split at h; cases h
  split at h; cases h
  cases h
  refine ⟨by dsimp only; omega, by dsimp only; omega, by dsimp only; simp; omega, by dsimp only; omega⟩

theorem seglog_partOf_fn (s : List UInt8) (hs : s.length = 256) : Does P F_seglog_partOf [S s] [] fun u cs => u = .tuple #[.agg ((ptOf s).getD ptZ).cells.toArray, .bool (ptOf s).isSome] ∧ cs = [] := by
  refine Does.mk (N := 62) fn_seglog_partOf rfl rfl rfl (fun F => ?_)
  simp only [List.cons_append, List.nil_append]
  have e1 : IntKind.i64.wrap (val ((s.take 9).drop 1) : Int) = tk s 1 9 := rfl
  have e9 : IntKind.i64.wrap (val ((s.take 17).drop 9) : Int) = tk s 9 17 := rfl
  have e17 : IntKind.i64.wrap (val ((s.take 19).drop 17) : Int) = tk s 17 19 := rfl
  have e19 : IntKind.i64.wrap (val ((s.take 21).drop 19) : Int) = tk s 19 21 := rfl
  have e21 : IntKind.i64.wrap (val ((s.take 23).drop 21) : Int) = tk s 21 23 := rfl
  have h17 := tk_small s 17 19 (by omega)
  have h19 := tk_small s 19 21 (by omega)
  have h21 := tk_small s 21 23 (by omega)
  refine XC.seq ?_
  refine XC.reg ?_
  refine XL.al z_seglog_part rfl (fun b2 => ?_)
  refine XL.as rfl rfl ?_
  refine XL.nil ?_
  refine XQ.thenN ?_
  refine XC.seq ?_
  refine XC.drw (.q 0 <| .q 1 <| .q 2 <| .q 3 <| .q 4 <| .q 5 <| .q 6 <| .q 7 <| .q 8 <| .q 9 <| .q 10 <| .q 11 <| .q 12 <| .e 13 <| .r 0 <| .r 1 <| .r 2 <| .r 3 <| .r 4 <| .r 5 <| .r 6 <| .r 7 <| .r 8 <| .r 9 <| .r 10 <| .r 11 <| .r 12 <| .e 14 <| .done) mixed (by kernel_rfl) rfl ?_
  refine JP.qq rfl rfl rfl (XL.mv rfl rfl XL.qd) ?_
  refine JP.qq rfl rfl rfl (XL.slT 1 (9) u_string rfl (⟨_, rfl⟩) (⟨_, rfl⟩) (by omega) (by omega) rfl XL.qd) ?_
  refine JP.qq rfl rfl rfl (XL.call hb_seglog_taken rfl rfl (seglog_taken_fn ((s.take 9).drop 1) (by simp; omega)) (tn) (by rintro _ _ ⟨rfl, rfl⟩; exact XL.qdp (fun w h => h))) ?_
  refine JP.qq rfl rfl rfl (XL.mv rfl rfl XL.qd) ?_
  refine JP.qq rfl rfl rfl (XL.slT 9 (17) u_string rfl (⟨_, rfl⟩) (⟨_, rfl⟩) (by omega) (by omega) rfl XL.qd) ?_
  refine JP.qq rfl rfl rfl (XL.call hb_seglog_taken rfl rfl (seglog_taken_fn ((s.take 17).drop 9) (by simp; omega)) (tn) (by rintro _ _ ⟨rfl, rfl⟩; exact XL.qdp (fun w h => h))) ?_
  refine JP.qq rfl rfl rfl (XL.mv rfl rfl XL.qd) ?_
  refine JP.qq rfl rfl rfl (XL.slT 17 (19) u_string rfl (⟨_, rfl⟩) (⟨_, rfl⟩) (by omega) (by omega) rfl XL.qd) ?_
  refine JP.qq rfl rfl rfl (XL.call hb_seglog_taken rfl rfl (seglog_taken_fn ((s.take 19).drop 17) (by simp; omega)) (tn) (by rintro _ _ ⟨rfl, rfl⟩; exact XL.qdp (fun w h => h))) ?_
  refine JP.qq rfl rfl rfl (XL.mv rfl rfl XL.qd) ?_
  refine JP.qq rfl rfl rfl (XL.slT 19 (21) u_string rfl (⟨_, rfl⟩) (⟨_, rfl⟩) (by omega) (by omega) rfl XL.qd) ?_
  refine JP.qq rfl rfl rfl (XL.call hb_seglog_taken rfl rfl (seglog_taken_fn ((s.take 21).drop 19) (by simp; omega)) (tn) (by rintro _ _ ⟨rfl, rfl⟩; exact XL.qdp (fun w h => h))) ?_
  refine JP.qq rfl rfl rfl (XL.bd z_seglog_part p_seglog_part rfl rfl XL.qd) ?_
  refine JP.ee rfl ?_
  refine XL.al z_seglog_part rfl (fun b4 => ?_)
  refine XL.ed ?_
  refine JP.rr rfl rfl rfl (XL.mv rfl rfl XL.qd) ?_
  refine JP.rr rfl rfl rfl (XL.slT 1 (9) u_string rfl (⟨_, rfl⟩) (⟨_, rfl⟩) (by omega) (by omega) rfl XL.qd) ?_
  refine JP.rr rfl rfl rfl (XL.call hb_seglog_taken rfl rfl (seglog_taken_fn ((s.take 9).drop 1) (by simp; omega)) (tn) (by rintro _ _ ⟨rfl, rfl⟩; exact XL.qdp (fun w h => h))) ?_
  refine JP.rr rfl rfl rfl (XL.mv rfl rfl XL.qd) ?_
  refine JP.rr rfl rfl rfl (XL.slT 9 (17) u_string rfl (⟨_, rfl⟩) (⟨_, rfl⟩) (by omega) (by omega) rfl XL.qd) ?_
  refine JP.rr rfl rfl rfl (XL.call hb_seglog_taken rfl rfl (seglog_taken_fn ((s.take 17).drop 9) (by simp; omega)) (tn) (by rintro _ _ ⟨rfl, rfl⟩; exact XL.qdp (fun w h => h))) ?_
  refine JP.rr rfl rfl rfl (XL.mv rfl rfl XL.qd) ?_
  refine JP.rr rfl rfl rfl (XL.slT 17 (19) u_string rfl (⟨_, rfl⟩) (⟨_, rfl⟩) (by omega) (by omega) rfl XL.qd) ?_
  refine JP.rr rfl rfl rfl (XL.call hb_seglog_taken rfl rfl (seglog_taken_fn ((s.take 19).drop 17) (by simp; omega)) (tn) (by rintro _ _ ⟨rfl, rfl⟩; exact XL.qdp (fun w h => h))) ?_
  refine JP.rr rfl rfl rfl (XL.mv rfl rfl XL.qd) ?_
  refine JP.rr rfl rfl rfl (XL.slT 19 (21) u_string rfl (⟨_, rfl⟩) (⟨_, rfl⟩) (by omega) (by omega) rfl XL.qd) ?_
  refine JP.rr rfl rfl rfl (XL.call hb_seglog_taken rfl rfl (seglog_taken_fn ((s.take 21).drop 19) (by simp; omega)) (tn) (by rintro _ _ ⟨rfl, rfl⟩; exact XL.qdp (fun w h => h))) ?_
  refine JP.rr rfl rfl rfl (XL.bd z_seglog_part p_seglog_part rfl rfl XL.qd) ?_
  refine JP.ee rfl ?_
  refine XL.stM g_seglog_part rfl rfl rfl (by rfl) rfl ?_
  refine XL.edn ?_
  refine JP.done ?_
  refine XQ.thenN ?_
  refine XC.seq ?_
  refine XC.reg ?_
  refine XL.mv rfl rfl ?_
  refine XL.slT 21 (23) u_string rfl (⟨_, rfl⟩) (⟨_, rfl⟩) (by omega) (by omega) rfl ?_
  refine XL.call hb_seglog_taken rfl rfl (seglog_taken_fn ((s.take 23).drop 21) (by simp; omega)) (tn) ?_
  rintro _ _ ⟨rfl, rfl⟩
  simp only [List.cons_append, List.nil_append]
  refine XL.as rfl rfl ?_
  refine XL.nil ?_
  refine XQ.thenN ?_
  refine XC.seq ?_
  refine XC.seq ?_
  refine XC.reg ?_
  refine XL.mv rfl rfl ?_
  refine XL.ixT 0 u_string rfl rfl rfl (by omega) rfl ?_
  refine XL.bin rfl rfl rfl (bNeI) ?_
  refine XL.mv rfl rfl ?_
  refine XL.split 25 rfl (fun hg25 => ?_) (fun hg25 => ?_)
  · refine XL.no rfl rfl ?_
    refine XL.no rfl rfl ?_
    refine XL.no rfl rfl ?_
    refine XL.no rfl rfl ?_
    refine XL.no rfl rfl ?_
    refine XL.no rfl rfl ?_
    refine XL.no rfl rfl ?_
    refine XL.pkT rfl rfl rfl ?_
    refine XL.mv rfl rfl ?_
    refine XL.no rfl rfl ?_
    refine XL.no rfl rfl ?_
    refine XL.no rfl rfl ?_
    refine XL.pkT rfl rfl rfl ?_
    refine XL.mv rfl rfl ?_
    refine XL.no rfl rfl ?_
    refine XL.no rfl rfl ?_
    refine XL.no rfl rfl ?_
    refine XL.pkT rfl rfl rfl ?_
    refine XL.mv rfl rfl ?_
    refine XL.no rfl rfl ?_
    refine XL.no rfl rfl ?_
    refine XL.no rfl rfl ?_
    refine XL.no rfl rfl ?_
    refine XL.no rfl rfl ?_
    refine XL.pkT rfl rfl rfl ?_
    refine XL.mv rfl rfl ?_
    refine XL.no rfl rfl ?_
    refine XL.no rfl rfl ?_
    refine XL.pkT rfl rfl rfl ?_
    refine XL.nil ?_
    refine XQ.thenN ?_
    refine XC.condT rfl ?_
    refine XC.seq ?_
    refine XC.reg ?_
    refine XL.bd z_seglog_part p_seglog_part rfl rfl ?_
    refine XL.stM g_seglog_part rfl rfl rfl (by rfl) rfl ?_
    refine XL.as rfl rfl ?_
    refine XL.nil ?_
    refine XQ.thenN ?_
    refine XC.ret ?_
    refine XQ.thenR ?_
    exact XQ.ret (.inl rfl) rfl (rC (resN g_seglog_part rfl rfl rfl) <| rC (resT rfl) <| rN) [] (by rw [show ptOf s = none by unfold ptOf; first | (rw [ if_pos (by assumption)]; done) | (rw [if_neg (by assumption),  if_pos (by assumption)]; done) | (rw [if_neg (by assumption), if_neg (by simpa using hg34),  if_pos (by assumption)]; done) | (rw [if_neg (by assumption), if_neg (by simpa using hg34), if_neg (by assumption),  if_pos (by assumption)]; done) | (rw [if_neg (by assumption), if_neg (by simpa using hg34), if_neg (by assumption), if_neg (by assumption),  if_pos (by assumption)]; done) | (rw [if_neg (by assumption), if_neg (by simpa using hg34), if_neg (by assumption), if_neg (by assumption), if_neg (by assumption),  if_pos (by assumption)]; done)]; exact ⟨rfl, rfl⟩) (fun w h => by first | exact Take.sat (t1.c tn) h | exact Take.sat (t2.c tn) h | exact Take.sat (t3.c tn) h | exact Take.sat (t4.c tn) h)
  · refine XL.fa fo_seglog_part_0 rfl rfl ?_
    refine XL.ld o_int rfl (by rfl) rfl ?_
    refine XL.fa fo_seglog_part_1 rfl rfl ?_
    refine XL.ld o_int rfl (by rfl) rfl ?_
    refine XL.bs (enc := encI) [tk s 1 9, tk s 9 17] e_L_int z_int rfl rfl rfl (by intro x hx; rfl) rfl (fun v30 _ => ?_)
    refine XL.call hb_seglog_fits rfl rfl (seglog_fits_fn v30 [tk s 1 9, tk s 9 17] (by simp)) (t0.c tn) ?_
    rintro _ _ ⟨rfl, rfl⟩
    simp only [List.cons_append, List.nil_append]
    refine XL.notT rfl rfl ?_
    refine XL.pkF rfl rfl rfl ?_
    refine XL.mv rfl rfl ?_
    refine XL.splitB 34 rfl (fun hg34 => ?_) (fun hg34 => ?_)
    · refine XL.no rfl rfl ?_
      refine XL.no rfl rfl ?_
      refine XL.no rfl rfl ?_
      refine XL.pkT rfl rfl rfl ?_
      refine XL.mv rfl rfl ?_
      refine XL.no rfl rfl ?_
      refine XL.no rfl rfl ?_
      refine XL.no rfl rfl ?_
      refine XL.pkT rfl rfl rfl ?_
      refine XL.mv rfl rfl ?_
      refine XL.no rfl rfl ?_
      refine XL.no rfl rfl ?_
      refine XL.no rfl rfl ?_
      refine XL.no rfl rfl ?_
      refine XL.no rfl rfl ?_
      refine XL.pkT rfl rfl rfl ?_
      refine XL.mv rfl rfl ?_
      refine XL.no rfl rfl ?_
      refine XL.no rfl rfl ?_
      refine XL.pkT rfl rfl rfl ?_
      refine XL.nil ?_
      refine XQ.thenN ?_
      refine XC.condT rfl ?_
      refine XC.seq ?_
      refine XC.reg ?_
      refine XL.bd z_seglog_part p_seglog_part rfl rfl ?_
      refine XL.stM g_seglog_part rfl rfl rfl (by rfl) rfl ?_
      refine XL.as rfl rfl ?_
      refine XL.nil ?_
      refine XQ.thenN ?_
      refine XC.ret ?_
      refine XQ.thenR ?_
      exact XQ.ret (.inl rfl) rfl (rC (resN g_seglog_part rfl rfl rfl) <| rC (resT rfl) <| rN) [] (by rw [show ptOf s = none by unfold ptOf; first | (rw [ if_pos (by assumption)]; done) | (rw [if_neg (by assumption),  if_pos (by assumption)]; done) | (rw [if_neg (by assumption), if_neg (by simpa using hg34),  if_pos (by assumption)]; done) | (rw [if_neg (by assumption), if_neg (by simpa using hg34), if_neg (by assumption),  if_pos (by assumption)]; done) | (rw [if_neg (by assumption), if_neg (by simpa using hg34), if_neg (by assumption), if_neg (by assumption),  if_pos (by assumption)]; done) | (rw [if_neg (by assumption), if_neg (by simpa using hg34), if_neg (by assumption), if_neg (by assumption), if_neg (by assumption),  if_pos (by assumption)]; done)]; exact ⟨rfl, rfl⟩) (fun w h => by first | exact Take.sat (t1.c tn) h | exact Take.sat (t2.c tn) h | exact Take.sat (t3.c tn) h | exact Take.sat (t4.c tn) h)
    · refine XL.fa fo_seglog_part_3 rfl rfl ?_
      refine XL.ld o_int rfl (by rfl) rfl ?_
      refine XL.bin rfl rfl rfl (bLss) ?_
      refine XL.pkF rfl rfl rfl ?_
      refine XL.mv rfl rfl ?_
      refine XL.split 39 rfl (fun hg39 => ?_) (fun hg39 => ?_)
      · refine XL.no rfl rfl ?_
        refine XL.no rfl rfl ?_
        refine XL.no rfl rfl ?_
        refine XL.pkT rfl rfl rfl ?_
        refine XL.mv rfl rfl ?_
        refine XL.no rfl rfl ?_
        refine XL.no rfl rfl ?_
        refine XL.no rfl rfl ?_
        refine XL.no rfl rfl ?_
        refine XL.no rfl rfl ?_
        refine XL.pkT rfl rfl rfl ?_
        refine XL.mv rfl rfl ?_
        refine XL.no rfl rfl ?_
        refine XL.no rfl rfl ?_
        refine XL.pkT rfl rfl rfl ?_
        refine XL.nil ?_
        refine XQ.thenN ?_
        refine XC.condT rfl ?_
        refine XC.seq ?_
        refine XC.reg ?_
        refine XL.bd z_seglog_part p_seglog_part rfl rfl ?_
        refine XL.stM g_seglog_part rfl rfl rfl (by rfl) rfl ?_
        refine XL.as rfl rfl ?_
        refine XL.nil ?_
        refine XQ.thenN ?_
        refine XC.ret ?_
        refine XQ.thenR ?_
        exact XQ.ret (.inl rfl) rfl (rC (resN g_seglog_part rfl rfl rfl) <| rC (resT rfl) <| rN) [] (by rw [show ptOf s = none by unfold ptOf; first | (rw [ if_pos (by assumption)]; done) | (rw [if_neg (by assumption),  if_pos (by assumption)]; done) | (rw [if_neg (by assumption), if_neg (by simpa using hg34),  if_pos (by assumption)]; done) | (rw [if_neg (by assumption), if_neg (by simpa using hg34), if_neg (by assumption),  if_pos (by assumption)]; done) | (rw [if_neg (by assumption), if_neg (by simpa using hg34), if_neg (by assumption), if_neg (by assumption),  if_pos (by assumption)]; done) | (rw [if_neg (by assumption), if_neg (by simpa using hg34), if_neg (by assumption), if_neg (by assumption), if_neg (by assumption),  if_pos (by assumption)]; done)]; exact ⟨rfl, rfl⟩) (fun w h => by first | exact Take.sat (t1.c tn) h | exact Take.sat (t2.c tn) h | exact Take.sat (t3.c tn) h | exact Take.sat (t4.c tn) h)
      · refine XL.fa fo_seglog_part_3 rfl rfl ?_
        refine XL.ld o_int rfl (by rfl) rfl ?_
        refine XL.bin rfl rfl rfl (bGtr) ?_
        refine XL.pkF rfl rfl rfl ?_
        refine XL.mv rfl rfl ?_
        refine XL.split 44 rfl (fun hg44 => ?_) (fun hg44 => ?_)
        · refine XL.no rfl rfl ?_
          refine XL.no rfl rfl ?_
          refine XL.no rfl rfl ?_
          refine XL.no rfl rfl ?_
          refine XL.no rfl rfl ?_
          refine XL.pkT rfl rfl rfl ?_
          refine XL.mv rfl rfl ?_
          refine XL.no rfl rfl ?_
          refine XL.no rfl rfl ?_
          refine XL.pkT rfl rfl rfl ?_
          refine XL.nil ?_
          refine XQ.thenN ?_
          refine XC.condT rfl ?_
          refine XC.seq ?_
          refine XC.reg ?_
          refine XL.bd z_seglog_part p_seglog_part rfl rfl ?_
          refine XL.stM g_seglog_part rfl rfl rfl (by rfl) rfl ?_
          refine XL.as rfl rfl ?_
          refine XL.nil ?_
          refine XQ.thenN ?_
          refine XC.ret ?_
          refine XQ.thenR ?_
          exact XQ.ret (.inl rfl) rfl (rC (resN g_seglog_part rfl rfl rfl) <| rC (resT rfl) <| rN) [] (by rw [show ptOf s = none by unfold ptOf; first | (rw [ if_pos (by assumption)]; done) | (rw [if_neg (by assumption),  if_pos (by assumption)]; done) | (rw [if_neg (by assumption), if_neg (by simpa using hg34),  if_pos (by assumption)]; done) | (rw [if_neg (by assumption), if_neg (by simpa using hg34), if_neg (by assumption),  if_pos (by assumption)]; done) | (rw [if_neg (by assumption), if_neg (by simpa using hg34), if_neg (by assumption), if_neg (by assumption),  if_pos (by assumption)]; done) | (rw [if_neg (by assumption), if_neg (by simpa using hg34), if_neg (by assumption), if_neg (by assumption), if_neg (by assumption),  if_pos (by assumption)]; done)]; exact ⟨rfl, rfl⟩) (fun w h => by first | exact Take.sat (t1.c tn) h | exact Take.sat (t2.c tn) h | exact Take.sat (t3.c tn) h | exact Take.sat (t4.c tn) h)
        · refine XL.fa fo_seglog_part_2 rfl rfl ?_
          refine XL.ld o_int rfl (by rfl) rfl ?_
          refine XL.fa fo_seglog_part_3 rfl rfl ?_
          refine XL.ld o_int rfl (by rfl) rfl ?_
          refine XL.bin rfl rfl rfl (bGeq) ?_
          refine XL.pkF rfl rfl rfl ?_
          refine XL.mv rfl rfl ?_
          refine XL.split 51 rfl (fun hg51 => ?_) (fun hg51 => ?_)
          · refine XL.no rfl rfl ?_
            refine XL.no rfl rfl ?_
            refine XL.pkT rfl rfl rfl ?_
            refine XL.nil ?_
            refine XQ.thenN ?_
            refine XC.condT rfl ?_
            refine XC.seq ?_
            refine XC.reg ?_
            refine XL.bd z_seglog_part p_seglog_part rfl rfl ?_
            refine XL.stM g_seglog_part rfl rfl rfl (by rfl) rfl ?_
            refine XL.as rfl rfl ?_
            refine XL.nil ?_
            refine XQ.thenN ?_
            refine XC.ret ?_
            refine XQ.thenR ?_
            exact XQ.ret (.inl rfl) rfl (rC (resN g_seglog_part rfl rfl rfl) <| rC (resT rfl) <| rN) [] (by rw [show ptOf s = none by unfold ptOf; first | (rw [ if_pos (by assumption)]; done) | (rw [if_neg (by assumption),  if_pos (by assumption)]; done) | (rw [if_neg (by assumption), if_neg (by simpa using hg34),  if_pos (by assumption)]; done) | (rw [if_neg (by assumption), if_neg (by simpa using hg34), if_neg (by assumption),  if_pos (by assumption)]; done) | (rw [if_neg (by assumption), if_neg (by simpa using hg34), if_neg (by assumption), if_neg (by assumption),  if_pos (by assumption)]; done) | (rw [if_neg (by assumption), if_neg (by simpa using hg34), if_neg (by assumption), if_neg (by assumption), if_neg (by assumption),  if_pos (by assumption)]; done)]; exact ⟨rfl, rfl⟩) (fun w h => by first | exact Take.sat (t1.c tn) h | exact Take.sat (t2.c tn) h | exact Take.sat (t3.c tn) h | exact Take.sat (t4.c tn) h)
          · refine XL.mv rfl rfl ?_
            refine XL.bin rfl rfl rfl (bGtr) ?_
            refine XL.pkF rfl rfl rfl ?_
            refine XL.nil ?_
            refine XQ.thenN ?_
            refine XC.cond rfl (fun hc0 => ?_) (fun hc0 => ?_)
            · refine XC.seq ?_
              refine XC.reg ?_
              refine XL.bd z_seglog_part p_seglog_part rfl rfl ?_
              refine XL.stM g_seglog_part rfl rfl rfl (by rfl) rfl ?_
              refine XL.as rfl rfl ?_
              refine XL.nil ?_
              refine XQ.thenN ?_
              refine XC.ret ?_
              refine XQ.thenR ?_
              exact XQ.ret (.inl rfl) rfl (rC (resN g_seglog_part rfl rfl rfl) <| rC (resT rfl) <| rN) [] (by rw [show ptOf s = none by unfold ptOf; first | (rw [ if_pos (by assumption)]; done) | (rw [if_neg (by assumption),  if_pos (by assumption)]; done) | (rw [if_neg (by assumption), if_neg (by simpa using hg34),  if_pos (by assumption)]; done) | (rw [if_neg (by assumption), if_neg (by simpa using hg34), if_neg (by assumption),  if_pos (by assumption)]; done) | (rw [if_neg (by assumption), if_neg (by simpa using hg34), if_neg (by assumption), if_neg (by assumption),  if_pos (by assumption)]; done) | (rw [if_neg (by assumption), if_neg (by simpa using hg34), if_neg (by assumption), if_neg (by assumption), if_neg (by assumption),  if_pos (by assumption)]; done)]; exact ⟨rfl, rfl⟩) (fun w h => by first | exact Take.sat (t1.c tn) h | exact Take.sat (t2.c tn) h | exact Take.sat (t3.c tn) h | exact Take.sat (t4.c tn) h)
            · refine XC.skip ?_
              refine XQ.thenN ?_
              refine XC.seq ?_
              refine XC.reg ?_
              refine XL.mv rfl rfl ?_
              refine XL.mv rfl rfl ?_
              refine XL.re 57 (u := .int .i64 (tk s 21 23)) rfl rfl ?_
              refine XL.bin rfl rfl rfl (bAdd (by omega)) ?_
              refine XL.re 58 (u := .int .i64 ((23 + (tk s 21 23).toNat : Nat) : Int)) rfl (congrArg (Value.int .i64) (by omega)) ?_
              refine XL.slT 23 (23 + (tk s 21 23).toNat) u_string rfl ⟨_, rfl⟩ ⟨_, rfl⟩ (by omega) (by omega) rfl ?_
              refine XL.fa fo_seglog_part_4 rfl rfl ?_
              refine XL.st o_string rfl rfl rfl ?_
              refine XL.nil ?_
              refine XQ.thenN ?_
              refine XC.seq ?_
              refine XC.reg ?_
              refine XL.ldM g_seglog_part rfl (by rfl) rfl ?_
              refine XL.stM g_seglog_part rfl rfl rfl (by rfl) rfl ?_
              refine XL.as rfl rfl ?_
              refine XL.nil ?_
              refine XQ.thenN ?_
              refine XC.ret ?_
              exact XQ.ret (.inl rfl) rfl (rC (resN g_seglog_part rfl rfl rfl) <| rC (resT rfl) <| rN) [] (by have hff : fitsB [tk s 1 9, tk s 9 17] = true := (by simpa using hg34); simp only [fitsB, List.all_cons, List.all_nil, Bool.and_eq_true, decide_eq_true_eq] at hff; have f1 : ((tk s 1 9).toNat : Int) = tk s 1 9 := (by omega); have f2 : ((tk s 9 17).toNat : Int) = tk s 9 17 := (by omega); have f3 : ((tk s 17 19).toNat : Int) = tk s 17 19 := (by omega); have f4 : ((tk s 19 21).toNat : Int) = tk s 19 21 := (by omega); rw [show ptOf s = some ⟨(tk s 1 9).toNat, (tk s 9 17).toNat, (tk s 17 19).toNat, (tk s 19 21).toNat, (s.take (23 + (tk s 21 23).toNat)).drop 23⟩ by unfold ptOf; rw [if_neg (by assumption), if_neg (by simpa using hg34), if_neg (by assumption), if_neg (by assumption), if_neg (by assumption), if_neg (by assumption)]]; exact ⟨by simp only [Option.getD_some, Pt.cells, f1, f2, f3, f4]; rfl, rfl⟩) (fun w h => by first | exact Take.sat (t1.c tn) h | exact Take.sat (t2.c tn) h | exact Take.sat (t3.c tn) h | exact Take.sat (t4.c tn) h)
end Go.Proofs.YthlfbndanknnmaaDoor
