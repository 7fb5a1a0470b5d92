/-
  Package seglog: the records that a checkpoint tells. Printed by mk.py out of spec_k05g.py.
-/
import Derived.Test.YthlfbndanknnmaaDoorSxK05f
namespace Go.Proofs.YthlfbndanknnmaaDoor
open Go Go.Sx

/-- A record. -/
structure RecS where
  seq : Nat
  seg : Nat
  body : List UInt8
abbrev encR (r : RecS) : List Value := [.int .i64 (r.seq : Int), .int .i64 (r.seg : Int), S r.body]
theorem encR_one (r : RecS) : (encR r).all oneC = true := rfl
theorem recGo_of {now : List (List UInt8)} {base room : Nat} {p0 : Pt} : ∀ {todo k : Nat} {acc b : List UInt8}, recGo now base room p0 todo k acc = some b → (todo = 0 ∨ k + todo ≤ room) ∧ b.length ≤ acc.length + 233 * todo
  | 0, k, acc, b, h => by cases h; exact ⟨.inl rfl, by simp⟩
  | todo + 1, k, acc, b, h => by
    rw [recGo] at h
    split at h; cases h
    split at h; cases h
    rename_i p hp
    split at h
    · have h1 := recGo_of h
      have h2 := (ptOf_of hp).2.2.1
      rw [List.length_append] at h1
      exact ⟨.inr (by omega), by omega⟩
    · cases h
theorem recOf_of {now : List (List UInt8)} {base room : Nat} {p : Pt} {b : List UInt8} (h : recOf now base room = some (p, b)) : 1 ≤ p.of ∧ p.of ≤ 16 ∧ p.of ≤ room ∧ b.length ≤ 3728 := by
  unfold recOf at h
  split at h; cases h
  cases hp : ptOf (sec now base) with
  | none => rw [hp] at h; cases h
  | some p0 =>
    rw [hp, Option.bind_some] at h
    cases hg : recGo now base room p0 p0.of 0 [] with
    | none => rw [hg] at h; cases h
    | some x =>
      rw [hg] at h; cases h
      have h1 := recGo_of hg
      have h2 := ptOf_of hp
      refine ⟨h2.1, h2.2.1, by omega, ?_⟩
      have := h1.2
      have h3 : 233 * p.of ≤ 233 * 16 := Nat.mul_le_mul_left _ h2.2.1
      simp only [List.length_nil] at this; omega
/-- Does a record not follow upon these? -/
def behind (out : List RecS) (q : Nat) : Bool := match out.getLast? with | some r => decide (q ≤ r.seq) | none => false
def knownSeg (now : List (List UInt8)) (seq id used : Nat) : Nat → Nat → List RecS → Option (List RecS)
  | 0, _, _ => none
  | n + 1, at_, out => if used ≤ at_ then some out else match recOf now (2 + 16 * id + at_) (used - at_) with
    | none => none
    | some (p, b) => if seq ≤ p.seq ∨ behind out p.seq = true then none else knownSeg now seq id used n (at_ + p.of) (out ++ [⟨p.seq, id, b⟩])
def knownAll (now : List (List UInt8)) (seq : Nat) : List (Nat × Nat) → List RecS → Option (List RecS)
  | [], out => some out
  | x :: l, out => (knownSeg now seq x.1 x.2 17 0 out).bind fun out => knownAll now seq l out
theorem knownAll_take {now : List (List UInt8)} {seq : Nat} : ∀ (l : List (Nat × Nat)) (i : Nat) (h : i < l.length) (out : List RecS), knownAll now seq (l.take (i + 1)) out = (knownAll now seq (l.take i) out).bind fun o => knownSeg now seq (l[i]).1 (l[i]).2 17 0 o
  | x :: l, 0, _, out => by
    simp only [List.take_succ_cons, List.take_zero, knownAll, Option.bind_some, List.getElem_cons_zero]
    cases knownSeg now seq x.1 x.2 17 0 out <;> rfl
  | x :: l, i + 1, h, out => by
    simp only [List.take_succ_cons, knownAll, List.getElem_cons_succ]
    cases knownSeg now seq x.1 x.2 17 0 out with
    | none => rfl
    | some o => exact knownAll_take l i (by simpa using h) o
theorem knownAll_none {now : List (List UInt8)} {seq : Nat} : ∀ (l : List (Nat × Nat)) (i : Nat) (out : List RecS), knownAll now seq (l.take i) out = none → knownAll now seq l out = none
  | [], i, out, h => by simpa using h
  | x :: l, 0, out, h => by cases h
  | x :: l, i + 1, out, h => by
    simp only [List.take_succ_cons, knownAll] at h ⊢
    cases hk : knownSeg now seq x.1 x.2 17 0 out with
    | none => rfl
    | some o => rw [hk] at h; exact knownAll_none l i o h
abbrev recS (v : Value) (l : List RecS) : Chunk := Sx.sl v encR l T_seglog_Record 3
structure KnI (now : List (List UInt8)) (seq id used : Nat) (out0 : List RecS) (n at_ : Nat) (out : List RecS) : Prop where
  k : n ≤ at_
  at' : at_ ≤ used
  len : out.length ≤ out0.length + at_
  eq : knownSeg now seq id used 17 0 out0 = knownSeg now seq id used (17 - n) at_ out
def recD (o : Option (Pt × List UInt8)) : Pt × List UInt8 := o.getD (ptZ, [])
theorem recR_eq (id : Nat) (o : Option (Pt × List UInt8)) : recR id o = .tuple #[recV (recD o).1.seq (if o.isSome then id else 0) (recD o).2, .int .i64 ((recD o).1.of : Int), .int .i64 ((recD o).1.boot : Int), .int .i64 0] := by
  cases o <;> rfl
theorem recD_some {now : List (List UInt8)} {base room : Nat} (h : (recD (recOf now base room)).1.of ≠ 0) : ∃ p b, recOf now base room = some (p, b) ∧ recD (recOf now base room) = (p, b) := by
  cases hr : recOf now base room with
  | none => rw [hr] at h; exact absurd rfl h
  | some x => exact ⟨x.1, x.2, rfl, rfl⟩
theorem recD_none {now : List (List UInt8)} {base room : Nat} (h : (recD (recOf now base room)).1.of = 0) : recOf now base room = none := by
  cases hr : recOf now base room with
  | none => rfl
  | some x => have := recOf_of (p := x.1) (b := x.2) hr; rw [hr] at h; have h2 : x.1.of = 0 := h; omega
theorem behind_at {out : List RecS} {q : Nat} (h : 0 < out.length) : behind out q = decide (q ≤ (out[out.length - 1]).seq) := by
  unfold behind
  rw [List.getLast?_eq_getElem?, List.getElem?_eq_getElem (by omega)]
theorem behind_nil {out : List RecS} {q : Nat} (h : ¬ 0 < out.length) : behind out q = false := by
  have : out = [] := List.length_eq_zero_iff.1 (by omega)
  subst this; rfl
section
variable {now : List (List UInt8)} {seq id used n at_ : Nat} {out0 out : List RecS}
theorem KnI.bad (h : KnI now seq id used out0 n at_ out) (h16 : used ≤ 16) (hl : at_ < used) (hr : ∀ p b, recOf now (2 + 16 * id + at_) (used - at_) = some (p, b) → seq ≤ p.seq ∨ behind out p.seq = true) : knownSeg now seq id used 17 0 out0 = none := by
  have h1 := h.k
  rw [h.eq, show 17 - n = (16 - n) + 1 by omega, knownSeg, if_neg (by omega)]
  split
  · rfl
  · rename_i p b hp
    rw [if_pos (hr p b hp)]
theorem KnI.step (h : KnI now seq id used out0 n at_ out) (h16 : used ≤ 16) (hl : at_ < used) {p : Pt} {b : List UInt8} (hr : recOf now (2 + 16 * id + at_) (used - at_) = some (p, b)) (hq : ¬ (seq ≤ p.seq ∨ behind out p.seq = true)) :
    KnI now seq id used out0 (n + 1) (at_ + p.of) (out ++ [⟨p.seq, id, b⟩]) := by
  have h1 := h.k
  have h2 := recOf_of hr
  refine ⟨by omega, by omega, by have := h.len; simp; omega, ?_⟩
  rw [h.eq, show 17 - n = (17 - (n + 1)) + 1 by omega, knownSeg, if_neg (by omega), hr]
  dsimp only
  rw [if_neg hq]
end

theorem seglog_Log_known_fn (b bd pl : Nat) (c : Ck) (v : Value) (D : DiskS) (hD : Good D) (hc : c.segs.length ≤ 64) (hseg : ∀ x ∈ c.segs, 18 + 16 * x.1 ≤ D.now.length ∧ x.2 ≤ 16) :
  Does P F_seglog_Log_known [.pointer (some ⟨b, 0, none⟩)] [logB b c v bd pl, diskC bd D, c.sl v] fun u cs =>
    (knownAll D.now c.seq c.segs [] = none ∧ u = .tuple #[.slice none 0 0, .int .i64 4] ∧ cs = [logB b c v bd pl, diskC bd D, c.sl v]) ∨ (∃ out vo, knownAll D.now c.seq c.segs [] = some out ∧ u = .tuple #[vo, .int .i64 0] ∧ cs = [logB b c v bd pl, diskC bd D, c.sl v, recS vo out]) := by
  refine Does.mk (N := 79) fn_seglog_Log_known rfl rfl rfl (fun F => ?_)
  simp only [List.cons_append, List.nil_append]
  refine XC.oneV v (fun _ => ?_)
  refine XC.seq ?_
  refine XC.reg ?_
  refine XL.as rfl rfl ?_
  refine XL.as rfl rfl ?_
  refine XL.nil ?_
  refine XQ.thenN ?_
  refine XC.seq ?_
  refine XC.reg ?_
  refine XL.as rfl rfl ?_
  refine XL.nil ?_
  refine XQ.thenN ?_
  refine XC.seq ?_
  refine XC.seq ?_
  refine XC.reg ?_
  refine XL.mv rfl rfl ?_
  refine XL.ncP rfl rfl ?_
  refine XL.fa fo_seglog_Log_0 rfl rfl ?_
  refine XL.fa fo_seglog_checkpoint_3 rfl rfl ?_
  refine XL.ld o_L_seglog_Segment rfl (by rfl) rfl ?_
  refine XL.lenS e_L_seglog_Segment rfl rfl ?_
  refine XL.mv rfl rfl ?_
  refine XL.nil ?_
  refine XQ.thenN ?_
  refine XC.block ?_
  refine XC.loop (ι := Nat × List RecS × Value) (fun z => [(0, .pointer (some ⟨b, 0, none⟩)), (4, z.2.2), (16, v), (17, .int .i64 (c.segs.length : Int)), (18, .int .i64 (z.1 : Int))]) (fun z => [logB b c v bd pl, diskC bd D, c.sl v, recS z.2.2 z.2.1, F])
    (fun z => z.1 ≤ c.segs.length ∧ z.2.1.length ≤ 16 * z.1 ∧ knownAll D.now c.seq (c.segs.take z.1) [] = some z.2.1) (fun z => c.segs.length - z.1) (0, [], .slice none 0 0) ⟨Nat.zero_le _, by simp, rfl⟩ ⟨rfl, rfl, rfl, rfl, rfl, trivial⟩ (fun w h => Take.sat (t1.c <| t1.c <| t1.c <| t0.c <| t0.c tn) (sl_nil (enc := encR) (e := T_seglog_Record) (sz := 3) h)) (fun z hz => ?_)
  refine XC.seq ?_
  refine XC.reg ?_
  refine XL.bin rfl rfl rfl (bLss) ?_
  refine XL.nil ?_
  refine XQ.thenN ?_
  refine XC.seq ?_
  refine XC.cond rfl (fun hc0 => ?_) (fun hc0 => ?_)
  · have hlt : z.1 < c.segs.length := by omega
    have hx := hseg _ (List.getElem_mem hlt)
    have hzo := hz.2.1
    refine XC.skip ?_
    refine XQ.thenN ?_
    refine XC.seq ?_
    refine XC.block ?_
    refine XC.seq ?_
    refine XC.reg ?_
    refine XL.ixS z.1 e_L_seglog_Segment rfl rfl rfl hlt rfl (fun b20 _ => ?_)
    refine XL.ldSN g_seglog_Segment rfl hlt rfl ?_
    refine XL.al z_seglog_Segment rfl (fun b6 => ?_)
    refine XL.stM g_seglog_Segment rfl rfl rfl (by rfl) rfl ?_
    refine XL.nil ?_
    refine XQ.thenN ?_
    refine XC.seq ?_
    refine XC.reg ?_
    refine XL.as rfl rfl ?_
    refine XL.nil ?_
    refine XQ.thenN ?_
    refine XC.block ?_
    refine XC.loop (ι := Nat × Nat × List RecS × Value) (fun y => [(0, .pointer (some ⟨b, 0, none⟩)), (4, y.2.2.2), (6, .pointer (some ⟨b6, 0, none⟩)), (7, .int .i64 (y.2.1 : Int)), (16, v), (17, .int .i64 (c.segs.length : Int)), (18, .int .i64 (z.1 : Int))]) (fun y => [blk b6 (encG (c.segs[z.1])) T_seglog_Segment, logB b c v bd pl, diskC bd D, c.sl v, recS y.2.2.2 y.2.2.1, F])
      (fun y => KnI D.now c.seq (c.segs[z.1]).1 (c.segs[z.1]).2 z.2.1 y.1 y.2.1 y.2.2.1) (fun y => (c.segs[z.1]).2 - y.2.1) (0, 0, z.2.1, z.2.2) ⟨Nat.le_refl _, Nat.zero_le _, by simp, rfl⟩ ⟨rfl, rfl, rfl, rfl, rfl, rfl, rfl, trivial⟩ (fun w h => h) (fun y hy => ?_)
    refine XC.seq ?_
    refine XC.seq ?_
    refine XC.reg ?_
    refine XL.mv rfl rfl ?_
    refine XL.fa fo_seglog_Segment_1 rfl rfl ?_
    refine XL.ld o_int rfl (by rfl) rfl ?_
    refine XL.bin rfl rfl rfl (bLss) ?_
    refine XL.nil ?_
    refine XQ.thenN ?_
    refine XC.cond rfl (fun hc1 => ?_) (fun hc1 => ?_)
    · have hyl : y.2.1 < (c.segs[z.1]).2 := by omega
      have hyo := hy.len
      refine XC.skip ?_
      refine XQ.thenN ?_
      refine XC.block ?_
      refine XC.seq ?_
      refine XC.reg ?_
      refine XL.mv rfl rfl ?_
      refine XL.fa fo_seglog_Segment_0 rfl rfl ?_
      refine XL.ld o_int rfl (by rfl) rfl ?_
      refine XL.mv rfl rfl ?_
      refine XL.fa fo_seglog_Segment_1 rfl rfl ?_
      refine XL.ld o_int rfl (by rfl) rfl ?_
      refine XL.call hb_seglog_Log_record rfl rfl (seglog_Log_record_fn b bd c v pl D (c.segs[z.1]).1 y.2.1 (c.segs[z.1]).2 (by have := hD.wf.most; omega) hx.2 (by omega) hx.1 hD.wf.most hD.wf.size hD.off) (t1.c <| t1.c tn) ?_
      rintro _ _ ⟨rfl, rfl⟩
      simp only [List.cons_append, List.nil_append]
      rw [recR_eq]
      refine XL.mv rfl rfl ?_
      refine XL.ex rfl rfl rfl ?_
      refine XL.ex rfl rfl rfl ?_
      refine XL.ex rfl rfl rfl ?_
      refine XL.ex rfl rfl rfl ?_
      refine XL.al z_seglog_Record rfl (fun b8 => ?_)
      refine XL.stM g_seglog_Record rfl rfl rfl (by rfl) rfl ?_
      refine XL.as rfl rfl ?_
      refine XL.as rfl rfl ?_
      refine XL.as rfl rfl ?_
      refine XL.nil ?_
      refine XQ.thenN ?_
      refine XC.seq ?_
      refine XC.seq ?_
      refine XC.reg ?_
      refine XL.mv rfl rfl ?_
      refine XL.bin rfl rfl rfl (bNeI) ?_
      refine XL.nil ?_
      refine XQ.thenN ?_
      refine XC.condF' rfl (decide_eq_false (by omega)) ?_
      refine XC.skip ?_
      refine XQ.thenN ?_
      refine XC.seq ?_
      refine XC.seq ?_
      refine XC.isAtOr y.2.2.2 (fun bo hbo => ?_)
      refine XC.drw (.q 0 <| .q 1 <| .q 2 <| .q 3 <| .q 4 <| .q 5 <| .q 6 <| .q 7 <| .q 8 <| .q 9 <| .q 10 <| .q 11 <| .q 12 <| .q 13 <| .q 14 <| .q 15 <| .q 16 <| .q 17 <| .q 18 <| .q 19 <| .q 20 <| .q 21 <| .q 22 <| .q 23 <| .q 24 <| .q 25 <| .q 26 <| .q 27 <| .q 28 <| .done) mixed (by kernel_rfl) rfl ?_
      refine JP.qq rfl rfl rfl (XL.mv rfl rfl XL.qd) ?_
      refine JP.qq rfl rfl rfl (XL.bin rfl rfl rfl (bEqI) XL.qd) ?_
      refine JP.qq rfl rfl rfl (XL.mv rfl rfl XL.qd) ?_
      refine JP.split 43 rfl (fun hg43 => ?_) (fun hg43 => ?_)
      · refine JP.qq rfl rfl rfl (XL.no rfl rfl XL.qd) ?_
        refine JP.qq rfl rfl rfl (XL.no rfl rfl XL.qd) ?_
        refine JP.qq rfl rfl rfl (XL.no rfl rfl XL.qd) ?_
        refine JP.qq rfl rfl rfl (XL.no rfl rfl XL.qd) ?_
        refine JP.qq rfl rfl rfl (XL.no rfl rfl XL.qd) ?_
        refine JP.qq rfl rfl rfl (XL.no rfl rfl XL.qd) ?_
        refine JP.qq rfl rfl rfl (XL.no rfl rfl XL.qd) ?_
        refine JP.qq rfl rfl rfl (XL.no rfl rfl XL.qd) ?_
        refine JP.qq rfl rfl rfl (XL.pkT rfl rfl rfl XL.qd) ?_
        refine JP.qq rfl rfl rfl (XL.mv rfl rfl XL.qd) ?_
        refine JP.qq rfl rfl rfl (XL.no rfl rfl XL.qd) ?_
        refine JP.qq rfl rfl rfl (XL.no rfl rfl XL.qd) ?_
        refine JP.qq rfl rfl rfl (XL.no rfl rfl XL.qd) ?_
        refine JP.qq rfl rfl rfl (XL.no rfl rfl XL.qd) ?_
        refine JP.qq rfl rfl rfl (XL.no rfl rfl XL.qd) ?_
        refine JP.qq rfl rfl rfl (XL.no rfl rfl XL.qd) ?_
        refine JP.qq rfl rfl rfl (XL.no rfl rfl XL.qd) ?_
        refine JP.qq rfl rfl rfl (XL.no rfl rfl XL.qd) ?_
        refine JP.qq rfl rfl rfl (XL.no rfl rfl XL.qd) ?_
        refine JP.qq rfl rfl rfl (XL.no rfl rfl XL.qd) ?_
        refine JP.qq rfl rfl rfl (XL.no rfl rfl XL.qd) ?_
        refine JP.qq rfl rfl rfl (XL.no rfl rfl XL.qd) ?_
        refine JP.qq rfl rfl rfl (XL.no rfl rfl XL.qd) ?_
        refine JP.qq rfl rfl rfl (XL.no rfl rfl XL.qd) ?_
        refine JP.qq rfl rfl rfl (XL.no rfl rfl XL.qd) ?_
        refine JP.qq rfl rfl rfl (XL.pkT rfl rfl rfl XL.qd) ?_
        refine JP.done ?_
        refine XQ.thenN ?_
        refine XC.condT rfl ?_
        refine XC.seq ?_
        refine XC.reg ?_
        refine XL.as rfl rfl ?_
        refine XL.as rfl rfl ?_
        refine XL.nil ?_
        refine XQ.thenN ?_
        refine XC.ret ?_
        refine XQ.thenR ?_
        refine XQ.blkR ?_
        refine XQ.thenR ?_
        refine XQ.blkR ?_
        refine XQ.blkR ?_
        refine XQ.thenR ?_
        refine XQ.thenR ?_
        refine XQ.blkR ?_
        refine XQ.thenR ?_
        exact XQ.ret (.inl rfl) rfl (rC (resT rfl) <| rC (resT rfl) <| rN) [logB b c v bd pl, diskC bd D, c.sl v] (.inl ⟨knownAll_none _ (z.1 + 1) _ (by rw [knownAll_take _ _ hlt, hz.2.2, Option.bind_some]; exact hy.bad hx.2 hyl (fun p bb hr => absurd (recD_none (now := D.now) (base := 2 + 16 * (c.segs[z.1]).1 + y.2.1) (room := (c.segs[z.1]).2 - y.2.1) (by omega)) (by rw [hr]; simp))), rfl, rfl⟩) (fun w h => Take.sat (t1.c <| t1.c <| t2.c <| t3.c tn) h)
      · obtain ⟨p, bb, hr, hrd⟩ := recD_some (now := D.now) (base := 2 + 16 * (c.segs[z.1]).1 + y.2.1) (room := (c.segs[z.1]).2 - y.2.1) (by omega)
        have hro := recOf_of hr
        refine JP.qq rfl rfl rfl (XL.fa fo_seglog_Record_0 rfl rfl XL.qd) ?_
        refine JP.qq rfl rfl rfl (XL.ld o_int rfl (by rfl) rfl XL.qd) ?_
        refine JP.qq rfl rfl rfl (XL.mv rfl rfl XL.qd) ?_
        refine JP.qq rfl rfl rfl (XL.ncP rfl rfl XL.qd) ?_
        refine JP.qq rfl rfl rfl (XL.fa fo_seglog_Log_0 rfl rfl XL.qd) ?_
        refine JP.qq rfl rfl rfl (XL.fa fo_seglog_checkpoint_2 rfl rfl XL.qd) ?_
        refine JP.qq rfl rfl rfl (XL.ld o_int rfl (by rfl) rfl XL.qd) ?_
        refine JP.qq rfl rfl rfl (XL.bin rfl rfl rfl (bGeq) XL.qd) ?_
        refine JP.qq rfl rfl rfl (XL.pkF rfl rfl rfl XL.qd) ?_
        refine JP.qq rfl rfl rfl (XL.mv rfl rfl XL.qd) ?_
        refine JP.split 53 rfl (fun hg53 => ?_) (fun hg53 => ?_)
        · refine JP.qq rfl rfl rfl (XL.no rfl rfl XL.qd) ?_
          refine JP.qq rfl rfl rfl (XL.no rfl rfl XL.qd) ?_
          refine JP.qq rfl rfl rfl (XL.no rfl rfl XL.qd) ?_
          refine JP.qq rfl rfl rfl (XL.no rfl rfl XL.qd) ?_
          refine JP.qq rfl rfl rfl (XL.no rfl rfl XL.qd) ?_
          refine JP.qq rfl rfl rfl (XL.no rfl rfl XL.qd) ?_
          refine JP.qq rfl rfl rfl (XL.no rfl rfl XL.qd) ?_
          refine JP.qq rfl rfl rfl (XL.no rfl rfl XL.qd) ?_
          refine JP.qq rfl rfl rfl (XL.no rfl rfl XL.qd) ?_
          refine JP.qq rfl rfl rfl (XL.no rfl rfl XL.qd) ?_
          refine JP.qq rfl rfl rfl (XL.no rfl rfl XL.qd) ?_
          refine JP.qq rfl rfl rfl (XL.no rfl rfl XL.qd) ?_
          refine JP.qq rfl rfl rfl (XL.no rfl rfl XL.qd) ?_
          refine JP.qq rfl rfl rfl (XL.no rfl rfl XL.qd) ?_
          refine JP.qq rfl rfl rfl (XL.no rfl rfl XL.qd) ?_
          refine JP.qq rfl rfl rfl (XL.pkT rfl rfl rfl XL.qd) ?_
          refine JP.done ?_
          refine XQ.thenN ?_
          refine XC.condT rfl ?_
          refine XC.seq ?_
          refine XC.reg ?_
          refine XL.as rfl rfl ?_
          refine XL.as rfl rfl ?_
          refine XL.nil ?_
          refine XQ.thenN ?_
          refine XC.ret ?_
          refine XQ.thenR ?_
          refine XQ.blkR ?_
          refine XQ.thenR ?_
          refine XQ.blkR ?_
          refine XQ.blkR ?_
          refine XQ.thenR ?_
          refine XQ.thenR ?_
          refine XQ.blkR ?_
          refine XQ.thenR ?_
          exact XQ.ret (.inl rfl) rfl (rC (resT rfl) <| rC (resT rfl) <| rN) [logB b c v bd pl, diskC bd D, c.sl v] (.inl ⟨knownAll_none _ (z.1 + 1) _ (by rw [knownAll_take _ _ hlt, hz.2.2, Option.bind_some]; exact hy.bad hx.2 hyl (fun p bb hr => (by rw [hr] at hrd hg53; first | exact .inl (by have : recD (some (p, bb)) = (p, bb) := rfl; rw [this] at hg53; dsimp only at hg53; omega) | exact .inr (by rw [behind_at (by omega)]; have : recD (some (p, bb)) = (p, bb) := rfl; rw [hr, this] at hc3; dsimp only at hc3; exact decide_eq_true (by omega))))), rfl, rfl⟩) (fun w h => Take.sat (t1.c <| t1.c <| t2.c <| t3.c tn) h)
        · refine JP.qq rfl rfl rfl (XL.mv rfl rfl XL.qd) ?_
          refine JP.qq rfl rfl rfl (XL.lenS e_L_seglog_Record rfl rfl XL.qd) ?_
          refine JP.qq rfl rfl rfl (XL.bin rfl rfl rfl (bGtr) XL.qd) ?_
          refine JP.qq rfl rfl rfl (XL.mv rfl rfl XL.qd) ?_
          refine JP.split 57 rfl (fun hg57 => ?_) (fun hg57 => ?_)
          · haveI := hbo (by omega)
            refine JP.qq rfl rfl rfl (XL.mv rfl rfl XL.qd) ?_
            refine JP.qq rfl rfl rfl (XL.mv rfl rfl XL.qd) ?_
            refine JP.qq rfl rfl rfl (XL.lenS e_L_seglog_Record rfl rfl XL.qd) ?_
            refine JP.qq rfl rfl rfl (XL.bin rfl rfl rfl (bSub (by omega)) XL.qd) ?_
            refine JP.qq rfl rfl rfl (XL.ixB (y.2.2.1.length - 1) e_L_seglog_Record rfl rfl (by omega) (by omega) rfl XL.qd) ?_
            refine JP.qq rfl rfl rfl (XL.fa fo_seglog_Record_0 rfl rfl XL.qd) ?_
            refine JP.qq rfl rfl rfl (XL.ldSf (o := 0) o_int rfl (by omega) rfl rfl XL.qd) ?_
            refine JP.qq rfl rfl rfl (XL.fa fo_seglog_Record_0 rfl rfl XL.qd) ?_
            refine JP.qq rfl rfl rfl (XL.ld o_int rfl (by rfl) rfl XL.qd) ?_
            refine JP.qq rfl rfl rfl (XL.bin rfl rfl rfl (bGeq) XL.qd) ?_
            refine JP.qq rfl rfl rfl (XL.pkT rfl rfl rfl XL.qd) ?_
            refine JP.qq rfl rfl rfl (XL.pkF rfl rfl rfl XL.qd) ?_
            refine JP.done ?_
            refine XQ.thenN ?_
            refine XC.cond rfl (fun hc3 => ?_) (fun hc3 => ?_)
            · refine XC.seq ?_
              refine XC.reg ?_
              refine XL.as rfl rfl ?_
              refine XL.as rfl rfl ?_
              refine XL.nil ?_
              refine XQ.thenN ?_
              refine XC.ret ?_
              refine XQ.thenR ?_
              refine XQ.blkR ?_
              refine XQ.thenR ?_
              refine XQ.blkR ?_
              refine XQ.blkR ?_
              refine XQ.thenR ?_
              refine XQ.thenR ?_
              refine XQ.blkR ?_
              refine XQ.thenR ?_
              exact XQ.ret (.inl rfl) rfl (rC (resT rfl) <| rC (resT rfl) <| rN) [logB b c v bd pl, diskC bd D, c.sl v] (.inl ⟨knownAll_none _ (z.1 + 1) _ (by rw [knownAll_take _ _ hlt, hz.2.2, Option.bind_some]; exact hy.bad hx.2 hyl (fun p bb hr => (by rw [hr] at hrd hg53; first | exact .inl (by have : recD (some (p, bb)) = (p, bb) := rfl; rw [this] at hg53; dsimp only at hg53; omega) | exact .inr (by rw [behind_at (by omega)]; have : recD (some (p, bb)) = (p, bb) := rfl; rw [hr, this] at hc3; dsimp only at hc3; exact decide_eq_true (by omega))))), rfl, rfl⟩) (fun w h => Take.sat (t1.c <| t1.c <| t2.c <| t3.c tn) h)
            · refine XC.skip ?_
              refine XQ.thenN ?_
              refine XC.seq ?_
              refine XC.re 9 (u := .int .i64 (p.of : Int)) rfl (by rw [hrd]) ?_
              refine XC.reg ?_
              refine XL.mv rfl rfl ?_
              refine XL.ldM g_seglog_Record rfl (by rfl) rfl ?_
              refine XL.bs (enc := encR) [⟨(recD (recOf D.now (2 + 16 * (c.segs[z.1]).1 + y.2.1) ((c.segs[z.1]).2 - y.2.1))).1.seq, if (recOf D.now (2 + 16 * (c.segs[z.1]).1 + y.2.1) ((c.segs[z.1]).2 - y.2.1)).isSome then (c.segs[z.1]).1 else 0, (recD (recOf D.now (2 + 16 * (c.segs[z.1]).1 + y.2.1) ((c.segs[z.1]).2 - y.2.1))).2⟩] e_L_seglog_Record z_seglog_Record rfl rfl rfl (by intro x hx; rfl) rfl (fun v72 _ => ?_)
              refine XL.app [⟨(recD (recOf D.now (2 + 16 * (c.segs[z.1]).1 + y.2.1) ((c.segs[z.1]).2 - y.2.1))).1.seq, if (recOf D.now (2 + 16 * (c.segs[z.1]).1 + y.2.1) ((c.segs[z.1]).2 - y.2.1)).isSome then (c.segs[z.1]).1 else 0, (recD (recOf D.now (2 + 16 * (c.segs[z.1]).1 + y.2.1) ((c.segs[z.1]).2 - y.2.1))).2⟩] e_L_seglog_Record e_L_seglog_Record z_seglog_Record rfl rfl rfl rfl (fun x _ => encR_one x) (by have := hy.len; simp; omega) rfl (fun v73 _ => ?_)
              refine XL.as rfl rfl ?_
              refine XL.nil ?_
              refine XQ.thenN ?_
              refine XC.reg ?_
              refine XL.mv rfl rfl ?_
              refine XL.mv rfl rfl ?_
              refine XL.bin rfl rfl rfl (bAdd (by omega)) ?_
              refine XL.as rfl rfl ?_
              refine XL.nil ?_
              refine XQ.blkN ?_
              refine XQ.again (y.1 + 1, y.2.1 + p.of, y.2.2.1 ++ [⟨p.seq, (c.segs[z.1]).1, bb⟩], v73) (hy.step hx.2 hyl hr (by rintro (h | h); (rw [hrd] at hg53; dsimp only at hg53; omega); (rw [behind_at (by omega)] at h; have h := of_decide_eq_true h; rw [hrd] at hc3; dsimp only at hc3; omega))) (by have := recOf_of hr; dsimp only; omega) ⟨rfl, rfl, rfl, rfl, rfl, rfl, rfl, trivial⟩ (fun w h => by rw [hrd, hr] at h; exact Take.sat (t5.c <| t3.c <| t3.c <| t3.c <| t0.c <| t2.c tn) h)
          · refine JP.qq rfl rfl rfl (XL.no rfl rfl XL.qd) ?_
            refine JP.qq rfl rfl rfl (XL.no rfl rfl XL.qd) ?_
            refine JP.qq rfl rfl rfl (XL.no rfl rfl XL.qd) ?_
            refine JP.qq rfl rfl rfl (XL.no rfl rfl XL.qd) ?_
            refine JP.qq rfl rfl rfl (XL.no rfl rfl XL.qd) ?_
            refine JP.qq rfl rfl rfl (XL.no rfl rfl XL.qd) ?_
            refine JP.qq rfl rfl rfl (XL.no rfl rfl XL.qd) ?_
            refine JP.qq rfl rfl rfl (XL.no rfl rfl XL.qd) ?_
            refine JP.qq rfl rfl rfl (XL.no rfl rfl XL.qd) ?_
            refine JP.qq rfl rfl rfl (XL.no rfl rfl XL.qd) ?_
            refine JP.qq rfl rfl rfl (XL.pkF rfl rfl rfl XL.qd) ?_
            refine JP.qq rfl rfl rfl (XL.pkF rfl rfl rfl XL.qd) ?_
            refine JP.done ?_
            refine XQ.thenN ?_
            refine XC.condF rfl ?_
            refine XC.skip ?_
            refine XQ.thenN ?_
            refine XC.seq ?_
            refine XC.re 9 (u := .int .i64 (p.of : Int)) rfl (by rw [hrd]) ?_
            refine XC.reg ?_
            refine XL.mv rfl rfl ?_
            refine XL.ldM g_seglog_Record rfl (by rfl) rfl ?_
            refine XL.bs (enc := encR) [⟨(recD (recOf D.now (2 + 16 * (c.segs[z.1]).1 + y.2.1) ((c.segs[z.1]).2 - y.2.1))).1.seq, if (recOf D.now (2 + 16 * (c.segs[z.1]).1 + y.2.1) ((c.segs[z.1]).2 - y.2.1)).isSome then (c.segs[z.1]).1 else 0, (recD (recOf D.now (2 + 16 * (c.segs[z.1]).1 + y.2.1) ((c.segs[z.1]).2 - y.2.1))).2⟩] e_L_seglog_Record z_seglog_Record rfl rfl rfl (by intro x hx; rfl) rfl (fun v72 _ => ?_)
            refine XL.app [⟨(recD (recOf D.now (2 + 16 * (c.segs[z.1]).1 + y.2.1) ((c.segs[z.1]).2 - y.2.1))).1.seq, if (recOf D.now (2 + 16 * (c.segs[z.1]).1 + y.2.1) ((c.segs[z.1]).2 - y.2.1)).isSome then (c.segs[z.1]).1 else 0, (recD (recOf D.now (2 + 16 * (c.segs[z.1]).1 + y.2.1) ((c.segs[z.1]).2 - y.2.1))).2⟩] e_L_seglog_Record e_L_seglog_Record z_seglog_Record rfl rfl rfl rfl (fun x _ => encR_one x) (by have := hy.len; simp; omega) rfl (fun v73 _ => ?_)
            refine XL.as rfl rfl ?_
            refine XL.nil ?_
            refine XQ.thenN ?_
            refine XC.reg ?_
            refine XL.mv rfl rfl ?_
            refine XL.mv rfl rfl ?_
            refine XL.bin rfl rfl rfl (bAdd (by omega)) ?_
            refine XL.as rfl rfl ?_
            refine XL.nil ?_
            refine XQ.blkN ?_
            refine XQ.again (y.1 + 1, y.2.1 + p.of, y.2.2.1 ++ [⟨p.seq, (c.segs[z.1]).1, bb⟩], v73) (hy.step hx.2 hyl hr (by rintro (h | h); (rw [hrd] at hg53; dsimp only at hg53; omega); (rw [behind_nil (by omega)] at h; cases h))) (by have := recOf_of hr; dsimp only; omega) ⟨rfl, rfl, rfl, rfl, rfl, rfl, rfl, trivial⟩ (fun w h => by rw [hrd, hr] at h; exact Take.sat (t5.c <| t3.c <| t3.c <| t3.c <| t0.c <| t2.c tn) h)
    · have hfull : knownAll D.now c.seq (c.segs.take (z.1 + 1)) [] = some y.2.2.1 := by have h1 := hy.eq; have h2 := hy.k; have h3 := hy.at'; rw [knownAll_take _ _ hlt, hz.2.2, Option.bind_some, h1, show 17 - y.1 = (16 - y.1) + 1 by omega, knownSeg, if_pos (by omega)]
      refine XC.exit ?_
      refine XQ.thenE ?_
      refine XQ.thenE ?_
      refine XQ.blkE ?_
      refine XQ.blkN ?_
      refine XQ.thenN ?_
      refine XC.reg ?_
      refine XL.bin rfl rfl rfl (bAdd (by omega)) ?_
      refine XL.mv rfl rfl ?_
      refine XL.nil ?_
      exact XQ.again (z.1 + 1, y.2.2.1, y.2.2.2) ⟨by omega, by have := hy.len; have := hy.at'; simp only; omega, hfull⟩ (by dsimp only; omega) ⟨rfl, rfl, rfl, rfl, rfl, trivial⟩ (fun w h => Take.sat (t1.c <| t1.c <| t1.c <| t1.c <| t1.c tn) h)
  · have hze : z.1 = c.segs.length := by omega
    refine XC.exit ?_
    refine XQ.thenE ?_
    refine XQ.thenE ?_
    refine XQ.blkE ?_
    refine XQ.thenN ?_
    refine XC.seq ?_
    refine XC.reg ?_
    refine XL.mv rfl rfl ?_
    refine XL.as rfl rfl ?_
    refine XL.as rfl rfl ?_
    refine XL.nil ?_
    refine XQ.thenN ?_
    refine XC.ret ?_
    exact XQ.ret (.inl rfl) rfl (rC (resT rfl) <| rC (resT rfl) <| rN) [logB b c v bd pl, diskC bd D, c.sl v, recS z.2.2 z.2.1] (.inr ⟨z.2.1, z.2.2, by have := hz.2.2; rw [hze, List.take_of_length_le (Nat.le_refl _)] at this; exact this, rfl, rfl⟩) (fun w h => h)
end Go.Proofs.YthlfbndanknnmaaDoor
