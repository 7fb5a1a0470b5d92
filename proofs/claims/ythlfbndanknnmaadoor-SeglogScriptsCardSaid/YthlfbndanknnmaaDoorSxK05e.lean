/-
  Package seglog: records. Printed by mk.py out of spec_k05e.py.
-/
import Derived.Test.YthlfbndanknnmaaDoorSxK05d
namespace Go.Proofs.YthlfbndanknnmaaDoor
open Go Go.Sx

/-- A log's own variable. -/
abbrev logB (b : Nat) (c : Ck) (v : Value) (bd : Nat) (place : Nat) : Chunk := blk b [.int .i64 (c.serial : Int), .int .i64 (c.boot : Int), .int .i64 (c.seq : Int), v, .pointer (some ⟨bd, 0, none⟩), .int .i64 (place : Int)] T_seglog_Log
/-- A sector, as it is read. -/
def sec (now : List (List UInt8)) (n : Nat) : List UInt8 := full (now.getD n [])
theorem sec_length {now : List (List UInt8)} {n : Nat} (h : ∀ s ∈ now, s.length ≤ 256) : (sec now n).length = 256 := by
  have h1 : (now.getD n []).length ≤ 256 := by
    rcases Nat.lt_or_ge n now.length with hn | hn
    · have e : now.getD n [] = now[n] := by simp [List.getElem?_eq_getElem hn]
      rw [e]; exact h _ (List.getElem_mem hn)
    · have e : now.getD n [] = [] := by simp [List.getElem?_eq_none hn]
      rw [e]; simp
  unfold sec full
  rw [List.length_append, List.length_replicate]; omega
theorem ptD_len (s : List UInt8) : ((ptOf s).getD ptZ).body.length ≤ 233 := by
  cases h : ptOf s with
  | none => simp [ptZ]
  | some p => exact (ptOf_of h).2.2.1
/-- The parts of a record from the k-th on. -/
def recGo (now : List (List UInt8)) (base room : Nat) (p0 : Pt) : Nat → Nat → List UInt8 → Option (List UInt8)
  | 0, _, acc => some acc
  | todo + 1, k, acc => if room ≤ k then none else match ptOf (sec now (base + k)) with
    | none => none
    | some p => if p.n = k ∧ p.boot = p0.boot ∧ p.seq = p0.seq ∧ p.of = p0.of then recGo now base room p0 todo (k + 1) (acc ++ p.body) else none
/-- The record at a sector, ahead of an end: its first part, its body. -/
def recOf (now : List (List UInt8)) (base room : Nat) : Option (Pt × List UInt8) :=
  if room = 0 then none else (ptOf (sec now base)).bind fun p0 => (recGo now base room p0 p0.of 0 []).map fun b => (p0, b)
structure RecI (now : List (List UInt8)) (base room k : Nat) (p0 : Pt) (acc : List UInt8) : Prop where
  len : acc.length ≤ 233 * k
  at' : (k = 0 ∧ p0 = ptZ ∧ acc = []) ∨ (1 ≤ k ∧ k ≤ p0.of ∧ p0.of ≤ 16 ∧ 1 ≤ room ∧ ptOf (sec now base) = some p0 ∧ recGo now base room p0 p0.of 0 [] = recGo now base room p0 (p0.of - k) k acc)
theorem RecI.zero {now : List (List UInt8)} {base room : Nat} : RecI now base room 0 ptZ [] := ⟨by simp, .inl ⟨rfl, rfl, rfl⟩⟩
section
variable {now : List (List UInt8)} {base room k : Nat} {p0 : Pt} {acc : List UInt8}
/-- No room. -/
theorem RecI.out (h : RecI now base room k p0 acc) (hk : k = 0 ∨ k < p0.of) (hr : room ≤ k) : recOf now base room = none := by
  unfold recOf
  rcases h.at' with ⟨rfl, _, _⟩ | ⟨h1, h2, h3, h4, h5, h6⟩
  · rw [if_pos (by omega)]
  · rw [if_neg (by omega), h5, Option.bind_some, h6, show p0.of - k = (p0.of - k - 1) + 1 by omega, recGo, if_pos hr]; rfl
/-- No part. -/
theorem RecI.no (h : RecI now base room k p0 acc) (hk : k = 0 ∨ k < p0.of) (hr : k < room) (hp : ptOf (sec now (base + k)) = none) : recOf now base room = none := by
  unfold recOf
  rcases h.at' with ⟨rfl, _, _⟩ | ⟨h1, h2, h3, h4, h5, h6⟩
  · rw [if_neg (by omega)]
    rw [Nat.add_zero] at hp; rw [hp]; rfl
  · rw [if_neg (by omega), h5, Option.bind_some, h6, show p0.of - k = (p0.of - k - 1) + 1 by omega, recGo, if_neg (by omega), hp]; rfl
/-- Another's part. -/
theorem RecI.bad (h : RecI now base room k p0 acc) (hk : k = 0 ∨ k < p0.of) (hr : k < room) {p : Pt} (hp : ptOf (sec now (base + k)) = some p)
    (hb : ¬ (p.n = k ∧ (1 ≤ k → p.boot = p0.boot ∧ p.seq = p0.seq ∧ p.of = p0.of))) : recOf now base room = none := by
  unfold recOf
  rcases h.at' with ⟨rfl, _, _⟩ | ⟨h1, h2, h3, h4, h5, h6⟩
  · rw [if_neg (by omega)]
    have hp0 : ptOf (sec now base) = some p := hp
    have := ptOf_of hp
    rw [hp0, Option.bind_some, show p.of = (p.of - 1) + 1 by omega, recGo, if_neg (by omega), hp]
    dsimp only
    rw [if_neg (fun x => hb ⟨x.1, fun x => by omega⟩)]; rfl
  · rw [if_neg (by omega), h5, Option.bind_some, h6, show p0.of - k = (p0.of - k - 1) + 1 by omega, recGo, if_neg (by omega), hp]
    dsimp only
    rw [if_neg (fun x => hb ⟨x.1, fun _ => ⟨x.2.1, x.2.2.1, x.2.2.2⟩⟩)]; rfl
/-- One more. -/
theorem RecI.step0 (h : RecI now base room k p0 acc) (hk : k = 0) (hr : k < room) {p : Pt} (hp : ptOf (sec now (base + k)) = some p) (hn : p.n = k) : RecI now base room (k + 1) p (acc ++ p.body) := by
  have hx := ptOf_of hp
  subst hk
  rcases h.at' with ⟨_, _, rfl⟩ | ⟨h1, _⟩
  · have hp0 : ptOf (sec now base) = some p := hp
    refine ⟨by simp; omega, .inr ⟨by omega, hx.1, hx.2.1, by omega, hp0, ?_⟩⟩
    conv => lhs; rw [show p.of = (p.of - 1) + 1 by omega, recGo, if_neg (by omega), hp]
    dsimp only
    rw [if_pos ⟨hn, rfl, rfl, rfl⟩]
  · omega
theorem RecI.step (h : RecI now base room k p0 acc) (hk : k ≠ 0) (hk' : k < p0.of) (hr : k < room) {p : Pt} (hp : ptOf (sec now (base + k)) = some p) (hn : p.n = k) (hb : p.boot = p0.boot) (hq : p.seq = p0.seq) (ho : p.of = p0.of) :
    RecI now base room (k + 1) p0 (acc ++ p.body) := by
  have hx := ptOf_of hp
  rcases h.at' with ⟨h0, _, _⟩ | ⟨h1, h2, h3, h4, h5, h6⟩
  · exact absurd h0 hk
  · refine ⟨by have := h.len; simp; omega, .inr ⟨by omega, by omega, h3, h4, h5, ?_⟩⟩
    rw [h6, show p0.of - k = (p0.of - (k + 1)) + 1 by omega, recGo, if_neg (by omega), hp]
    dsimp only
    rw [if_pos ⟨hn, hb, hq, ho⟩]
theorem RecI.done (h : RecI now base room k p0 acc) (hk : k ≠ 0) (hk' : ¬ k < p0.of) : recOf now base room = some (p0, acc) := by
  rcases h.at' with ⟨h0, _, _⟩ | ⟨h1, h2, h3, h4, h5, h6⟩
  · exact absurd h0 hk
  · unfold recOf
    rw [if_neg (by omega), h5, Option.bind_some, h6, show p0.of - k = 0 by omega, recGo]; rfl
theorem RecI.small (h : RecI now base room k p0 acc) : k ≤ 16 := by
  rcases h.at' with ⟨h0, _, _⟩ | ⟨h1, h2, h3, _⟩ <;> omega
end
abbrev recV (q id : Nat) (b : List UInt8) : Value := .agg #[.int .i64 (q : Int), .int .i64 (id : Int), S b]
/-- What 'record' returns. -/
def recR (id : Nat) : Option (Pt × List UInt8) → Value
  | none => .tuple #[recV 0 0 [], .int .i64 0, .int .i64 0, .int .i64 0]
  | some (p, b) => .tuple #[recV p.seq id b, .int .i64 (p.of : Int), .int .i64 (p.boot : Int), .int .i64 0]

theorem seglog_Log_record_fn (b bd : Nat) (c : Ck) (v : Value) (pl : Nat) (D : DiskS) (id at_ en : Nat) (hid : id ≤ 64) (hen : en ≤ 16) (hat : at_ ≤ 16) (hlen : 18 + 16 * id ≤ D.now.length) (hsz : D.now.length ≤ 1026) (hsec : ∀ s ∈ D.now, s.length ≤ 256) (hoff : D.off = false) [OneV v] :
  Does P F_seglog_Log_record [.pointer (some ⟨b, 0, none⟩), .int .i64 (id : Int), .int .i64 (at_ : Int), .int .i64 (en : Int)] [logB b c v bd pl, diskC bd D] fun u cs => u = recR id (recOf D.now (2 + 16 * id + at_) (en - at_)) ∧ cs = [logB b c v bd pl, diskC bd D] := by
  refine Does.mk (N := 104) fn_seglog_Log_record rfl rfl rfl (fun F => ?_)
  simp only [List.cons_append, List.nil_append]
  refine XC.seq ?_
  refine XC.reg ?_
  refine XL.al z_seglog_Record rfl (fun b8 => ?_)
  refine XL.as rfl rfl ?_
  refine XL.as rfl rfl ?_
  refine XL.as rfl rfl ?_
  refine XL.nil ?_
  refine XQ.thenN ?_
  refine XC.seq ?_
  refine XC.reg ?_
  refine XL.al z_seglog_part rfl (fun b12 => ?_)
  refine XL.nil ?_
  refine XQ.thenN ?_
  refine XC.seq ?_
  refine XC.reg ?_
  refine XL.al z_strings_Builder rfl (fun b13 => ?_)
  refine XL.nil ?_
  refine XQ.thenN ?_
  refine XC.seq ?_
  refine XC.seq ?_
  refine XC.to (fun w h => bld_new h) ?_
  refine XC.reg ?_
  refine XL.as rfl rfl ?_
  refine XL.nil ?_
  refine XQ.thenN ?_
  refine XC.block ?_
  refine XC.loop (ι := Nat × Pt × List UInt8) (fun z => [(0, .pointer (some ⟨b, 0, none⟩)), (1, .int .i64 (id : Int)), (2, .int .i64 (at_ : Int)), (3, .int .i64 (en : Int)), (8, .pointer (some ⟨b8, 0, none⟩)), (12, .pointer (some ⟨b12, 0, none⟩)), (13, .pointer (some ⟨b13, 0, none⟩)), (14, .int .i64 (z.1 : Int))])
    (fun z => [bldC b13 z.2.2 T_strings_Builder, blk b12 z.2.1.cells T_seglog_part, blk b8 [.int .i64 0, .int .i64 0, S []] T_seglog_Record, logB b c v bd pl, diskC bd D, F])
    (fun z => RecI D.now (2 + 16 * id + at_) (en - at_) z.1 z.2.1 z.2.2) (fun z => 17 - z.1) (0, ptZ, []) RecI.zero ⟨rfl, rfl, rfl, rfl, rfl, rfl, rfl, rfl, trivial⟩ (fun w h => h) (fun z hz => ?_)
  refine XC.seq ?_
  refine XC.seq ?_
  refine XC.reg ?_
  refine XL.mv rfl rfl ?_
  refine XL.bin rfl rfl rfl (bEqI) ?_
  refine XL.mv rfl rfl ?_
  refine XL.split 21 rfl (fun hg21 => ?_) (fun hg21 => ?_)
  · refine XL.no rfl rfl ?_
    refine XL.no rfl rfl ?_
    refine XL.no rfl rfl ?_
    refine XL.no rfl rfl ?_
    refine XL.pkT rfl rfl rfl ?_
    refine XL.nil ?_
    refine XQ.thenN ?_
    refine XC.condT rfl ?_
    refine XC.skip ?_
    refine XQ.thenN ?_
    refine XC.seq ?_
    refine XC.block ?_
    refine XC.seq ?_
    refine XC.seq ?_
    have hk16 := hz.small
    have hkk : z.1 = 0 ∨ z.1 < z.2.1.of := by omega
    refine XC.reg ?_
    refine XL.mv rfl rfl ?_
    refine XL.mv rfl rfl ?_
    refine XL.bin rfl rfl rfl (bAdd (by omega)) ?_
    refine XL.mv rfl rfl ?_
    refine XL.bin rfl rfl rfl (bGeq) ?_
    refine XL.nil ?_
    refine XQ.thenN ?_
    refine XC.cond rfl (fun hc1 => ?_) (fun hc1 => ?_)
    · refine XC.seq ?_
      refine XC.reg ?_
      refine XL.bd z_seglog_Record p_seglog_Record rfl rfl ?_
      refine XL.stM g_seglog_Record rfl rfl rfl (by rfl) rfl ?_
      refine XL.as rfl rfl ?_
      refine XL.as rfl rfl ?_
      refine XL.as rfl rfl ?_
      refine XL.nil ?_
      refine XQ.thenN ?_
      refine XC.ret ?_
      refine XQ.thenR ?_
      refine XQ.blkR ?_
      refine XQ.thenR ?_
      refine XQ.thenR ?_
      refine XQ.blkR ?_
      refine XQ.thenR ?_
      exact XQ.ret (.inl rfl) rfl (rC (resN g_seglog_Record rfl rfl rfl) <| rC (resT rfl) <| rC (resT rfl) <| rC (resT rfl) <| rN) [logB b c v bd pl, diskC bd D] (by rw [hz.out hkk (by omega)]; exact ⟨rfl, rfl⟩) (fun w h => Take.sat (t3.c <| t3.c <| t3.c tn) h)
    · have hsl : (sec D.now (2 + 16 * id + at_ + z.1)).length = 256 := sec_length hsec
      have hroom : z.1 < en - at_ := by omega
      refine XC.skip ?_
      refine XQ.thenN ?_
      refine XC.seq ?_
      refine XC.reg ?_
      refine XL.mv rfl rfl ?_
      refine XL.ncP rfl rfl ?_
      refine XL.fa fo_seglog_Log_1 rfl rfl ?_
      refine XL.ld o_P_sector_Disk rfl (by rfl) rfl ?_
      refine XL.mv rfl rfl ?_
      refine XL.bin rfl rfl rfl (bMul (by omega)) ?_
      refine XL.bin rfl rfl rfl (bAdd (by omega)) ?_
      refine XL.mv rfl rfl ?_
      refine XL.bin rfl rfl rfl (bAdd (by omega)) ?_
      refine XL.mv rfl rfl ?_
      refine XL.bin rfl rfl rfl (bAdd (by omega)) ?_
      refine XL.re 46 (u := .int .i64 ((2 + 16 * id + at_ + z.1 : Nat) : Int)) rfl (congrArg (Value.int .i64) (by omega)) ?_
      refine XL.call hb_sector_Disk_Read rfl rfl (sector_Disk_Read_fn bd D (2 + 16 * id + at_ + z.1) (by omega) hsz (hsec _ (List.getElem_mem _)) hoff) (t4.c tn) ?_
      rintro _ _ ⟨rfl, rfl⟩
      simp only [List.cons_append, List.nil_append]
      refine XL.mv rfl rfl ?_
      refine XL.re 35 (u := .tuple #[S (sec D.now (2 + 16 * id + at_ + z.1)), .int .i64 0]) rfl (by rw [show sec D.now (2 + 16 * id + at_ + z.1) = full (D.now[2 + 16 * id + at_ + z.1]) by unfold sec; congr 1; exact (List.getElem_eq_getD []).symm]) ?_
      refine XL.ex rfl rfl rfl ?_
      refine XL.ex rfl rfl rfl ?_
      refine XL.as rfl rfl ?_
      refine XL.as rfl rfl ?_
      refine XL.nil ?_
      refine XQ.thenN ?_
      refine XC.seq ?_
      refine XC.seq ?_
      refine XC.reg ?_
      refine XL.mv rfl rfl ?_
      refine XL.bin rfl rfl rfl (bNeI) ?_
      refine XL.nil ?_
      refine XQ.thenN ?_
      refine XC.condF' rfl (decide_eq_false (by omega)) ?_
      refine XC.skip ?_
      refine XQ.thenN ?_
      refine XC.seq ?_
      refine XC.reg ?_
      refine XL.mv rfl rfl ?_
      refine XL.call hb_seglog_partOf rfl rfl (seglog_partOf_fn (sec D.now (2 + 16 * id + at_ + z.1)) hsl) (tn) ?_
      rintro _ _ ⟨rfl, rfl⟩
      simp only [List.cons_append, List.nil_append]
      refine XL.mv rfl rfl ?_
      refine XL.ex rfl rfl rfl ?_
      refine XL.ex rfl rfl rfl ?_
      refine XL.al z_seglog_part rfl (fun b17 => ?_)
      refine XL.stM g_seglog_part rfl rfl rfl (by rfl) rfl ?_
      refine XL.as rfl rfl ?_
      refine XL.nil ?_
      refine XQ.thenN ?_
      refine XC.seq ?_
      refine XC.seq ?_
      refine XC.reg ?_
      refine XL.mv rfl rfl ?_
      refine XL.bin rfl rfl rfl (bEqI) ?_
      refine XL.nil ?_
      refine XQ.thenN ?_
      refine XC.condT' rfl (decide_eq_true (by omega)) ?_
      refine XC.reg ?_
      refine XL.ldM g_seglog_part rfl (by rfl) rfl ?_
      refine XL.stM g_seglog_part rfl rfl rfl (by rfl) rfl ?_
      refine XL.nil ?_
      refine XQ.thenN ?_
      refine XC.seq ?_
      refine XC.seq ?_
      refine XC.reg ?_
      refine XL.mv rfl rfl ?_
      refine XL.notT rfl rfl ?_
      refine XL.mv rfl rfl ?_
      refine XL.splitB 64 rfl (fun hg64 => ?_) (fun hg64 => ?_)
      · refine XL.no rfl rfl ?_
        refine XL.no rfl rfl ?_
        refine XL.no rfl rfl ?_
        refine XL.no rfl rfl ?_
        refine XL.pkT rfl rfl rfl ?_
        refine XL.mv rfl rfl ?_
        refine XL.no rfl rfl ?_
        refine XL.no rfl rfl ?_
        refine XL.no rfl rfl ?_
        refine XL.no rfl rfl ?_
        refine XL.no rfl rfl ?_
        refine XL.pkT rfl rfl rfl ?_
        refine XL.mv rfl rfl ?_
        refine XL.no rfl rfl ?_
        refine XL.no rfl rfl ?_
        refine XL.no rfl rfl ?_
        refine XL.no rfl rfl ?_
        refine XL.no rfl rfl ?_
        refine XL.pkT rfl rfl rfl ?_
        refine XL.mv rfl rfl ?_
        refine XL.no rfl rfl ?_
        refine XL.no rfl rfl ?_
        refine XL.no rfl rfl ?_
        refine XL.no rfl rfl ?_
        refine XL.no rfl rfl ?_
        refine XL.pkT rfl rfl rfl ?_
        refine XL.nil ?_
        refine XQ.thenN ?_
        refine XC.condT rfl ?_
        refine XC.seq ?_
        refine XC.reg ?_
        refine XL.bd z_seglog_Record p_seglog_Record rfl rfl ?_
        refine XL.stM g_seglog_Record rfl rfl rfl (by rfl) rfl ?_
        refine XL.as rfl rfl ?_
        refine XL.as rfl rfl ?_
        refine XL.as rfl rfl ?_
        refine XL.nil ?_
        refine XQ.thenN ?_
        refine XC.ret ?_
        refine XQ.thenR ?_
        refine XQ.blkR ?_
        refine XQ.thenR ?_
        refine XQ.thenR ?_
        refine XQ.blkR ?_
        refine XQ.thenR ?_
        exact XQ.ret (.inl rfl) rfl (rC (resN g_seglog_Record rfl rfl rfl) <| rC (resT rfl) <| rC (resT rfl) <| rC (resT rfl) <| rN) [logB b c v bd pl, diskC bd D] (by rcases hp : ptOf (sec D.now (2 + 16 * id + at_ + z.1)) with _ | p; (rw [hz.no hkk hroom hp]; exact ⟨rfl, rfl⟩); (rw [hz.bad hkk hroom hp (by rintro ⟨q1, q2⟩; simp only [hp, Option.getD_some, Option.isSome_some] at *; first | omega | simp_all)]; exact ⟨rfl, rfl⟩)) (fun w h => Take.sat (t5.c <| t1.c <| t4.c tn) h)
      · refine XL.fa fo_seglog_part_2 rfl rfl ?_
        refine XL.ld o_int rfl (by rfl) rfl ?_
        refine XL.mv rfl rfl ?_
        refine XL.bin rfl rfl rfl (bNeI) ?_
        refine XL.pkF rfl rfl rfl ?_
        refine XL.mv rfl rfl ?_
        refine XL.split 70 rfl (fun hg70 => ?_) (fun hg70 => ?_)
        · refine XL.no rfl rfl ?_
          refine XL.no rfl rfl ?_
          refine XL.no rfl rfl ?_
          refine XL.no rfl rfl ?_
          refine XL.no rfl rfl ?_
          refine XL.pkT rfl rfl rfl ?_
          refine XL.mv rfl rfl ?_
          refine XL.no rfl rfl ?_
          refine XL.no rfl rfl ?_
          refine XL.no rfl rfl ?_
          refine XL.no rfl rfl ?_
          refine XL.no rfl rfl ?_
          refine XL.pkT rfl rfl rfl ?_
          refine XL.mv rfl rfl ?_
          refine XL.no rfl rfl ?_
          refine XL.no rfl rfl ?_
          refine XL.no rfl rfl ?_
          refine XL.no rfl rfl ?_
          refine XL.no rfl rfl ?_
          refine XL.pkT rfl rfl rfl ?_
          refine XL.nil ?_
          refine XQ.thenN ?_
          refine XC.condT rfl ?_
          refine XC.seq ?_
          refine XC.reg ?_
          refine XL.bd z_seglog_Record p_seglog_Record rfl rfl ?_
          refine XL.stM g_seglog_Record rfl rfl rfl (by rfl) rfl ?_
          refine XL.as rfl rfl ?_
          refine XL.as rfl rfl ?_
          refine XL.as rfl rfl ?_
          refine XL.nil ?_
          refine XQ.thenN ?_
          refine XC.ret ?_
          refine XQ.thenR ?_
          refine XQ.blkR ?_
          refine XQ.thenR ?_
          refine XQ.thenR ?_
          refine XQ.blkR ?_
          refine XQ.thenR ?_
          exact XQ.ret (.inl rfl) rfl (rC (resN g_seglog_Record rfl rfl rfl) <| rC (resT rfl) <| rC (resT rfl) <| rC (resT rfl) <| rN) [logB b c v bd pl, diskC bd D] (by rcases hp : ptOf (sec D.now (2 + 16 * id + at_ + z.1)) with _ | p; (rw [hz.no hkk hroom hp]; exact ⟨rfl, rfl⟩); (rw [hz.bad hkk hroom hp (by rintro ⟨q1, q2⟩; simp only [hp, Option.getD_some, Option.isSome_some] at *; first | omega | simp_all)]; exact ⟨rfl, rfl⟩)) (fun w h => Take.sat (t5.c <| t1.c <| t4.c tn) h)
        · refine XL.fa fo_seglog_part_0 rfl rfl ?_
          refine XL.ld o_int rfl (by rfl) rfl ?_
          refine XL.fa fo_seglog_part_0 rfl rfl ?_
          refine XL.ld o_int rfl (by rfl) rfl ?_
          refine XL.bin rfl rfl rfl (bNeI) ?_
          refine XL.pkF rfl rfl rfl ?_
          refine XL.mv rfl rfl ?_
          refine XL.split 77 rfl (fun hg77 => ?_) (fun hg77 => ?_)
          · refine XL.no rfl rfl ?_
            refine XL.no rfl rfl ?_
            refine XL.no rfl rfl ?_
            refine XL.no rfl rfl ?_
            refine XL.no rfl rfl ?_
            refine XL.pkT rfl rfl rfl ?_
            refine XL.mv rfl rfl ?_
            refine XL.no rfl rfl ?_
            refine XL.no rfl rfl ?_
            refine XL.no rfl rfl ?_
            refine XL.no rfl rfl ?_
            refine XL.no rfl rfl ?_
            refine XL.pkT rfl rfl rfl ?_
            refine XL.nil ?_
            refine XQ.thenN ?_
            refine XC.condT rfl ?_
            refine XC.seq ?_
            refine XC.reg ?_
            refine XL.bd z_seglog_Record p_seglog_Record rfl rfl ?_
            refine XL.stM g_seglog_Record rfl rfl rfl (by rfl) rfl ?_
            refine XL.as rfl rfl ?_
            refine XL.as rfl rfl ?_
            refine XL.as rfl rfl ?_
            refine XL.nil ?_
            refine XQ.thenN ?_
            refine XC.ret ?_
            refine XQ.thenR ?_
            refine XQ.blkR ?_
            refine XQ.thenR ?_
            refine XQ.thenR ?_
            refine XQ.blkR ?_
            refine XQ.thenR ?_
            exact XQ.ret (.inl rfl) rfl (rC (resN g_seglog_Record rfl rfl rfl) <| rC (resT rfl) <| rC (resT rfl) <| rC (resT rfl) <| rN) [logB b c v bd pl, diskC bd D] (by rcases hp : ptOf (sec D.now (2 + 16 * id + at_ + z.1)) with _ | p; (rw [hz.no hkk hroom hp]; exact ⟨rfl, rfl⟩); (rw [hz.bad hkk hroom hp (by rintro ⟨q1, q2⟩; simp only [hp, Option.getD_some, Option.isSome_some] at *; first | omega | simp_all)]; exact ⟨rfl, rfl⟩)) (fun w h => Take.sat (t5.c <| t1.c <| t4.c tn) h)
          · refine XL.fa fo_seglog_part_1 rfl rfl ?_
            refine XL.ld o_int rfl (by rfl) rfl ?_
            refine XL.fa fo_seglog_part_1 rfl rfl ?_
            refine XL.ld o_int rfl (by rfl) rfl ?_
            refine XL.bin rfl rfl rfl (bNeI) ?_
            refine XL.pkF rfl rfl rfl ?_
            refine XL.mv rfl rfl ?_
            refine XL.split 84 rfl (fun hg84 => ?_) (fun hg84 => ?_)
            · refine XL.no rfl rfl ?_
              refine XL.no rfl rfl ?_
              refine XL.no rfl rfl ?_
              refine XL.no rfl rfl ?_
              refine XL.no rfl rfl ?_
              refine XL.pkT rfl rfl rfl ?_
              refine XL.nil ?_
              refine XQ.thenN ?_
              refine XC.condT rfl ?_
              refine XC.seq ?_
              refine XC.reg ?_
              refine XL.bd z_seglog_Record p_seglog_Record rfl rfl ?_
              refine XL.stM g_seglog_Record rfl rfl rfl (by rfl) rfl ?_
              refine XL.as rfl rfl ?_
              refine XL.as rfl rfl ?_
              refine XL.as rfl rfl ?_
              refine XL.nil ?_
              refine XQ.thenN ?_
              refine XC.ret ?_
              refine XQ.thenR ?_
              refine XQ.blkR ?_
              refine XQ.thenR ?_
              refine XQ.thenR ?_
              refine XQ.blkR ?_
              refine XQ.thenR ?_
              exact XQ.ret (.inl rfl) rfl (rC (resN g_seglog_Record rfl rfl rfl) <| rC (resT rfl) <| rC (resT rfl) <| rC (resT rfl) <| rN) [logB b c v bd pl, diskC bd D] (by rcases hp : ptOf (sec D.now (2 + 16 * id + at_ + z.1)) with _ | p; (rw [hz.no hkk hroom hp]; exact ⟨rfl, rfl⟩); (rw [hz.bad hkk hroom hp (by rintro ⟨q1, q2⟩; simp only [hp, Option.getD_some, Option.isSome_some] at *; first | omega | simp_all)]; exact ⟨rfl, rfl⟩)) (fun w h => Take.sat (t5.c <| t1.c <| t4.c tn) h)
            · refine XL.fa fo_seglog_part_3 rfl rfl ?_
              refine XL.ld o_int rfl (by rfl) rfl ?_
              refine XL.fa fo_seglog_part_3 rfl rfl ?_
              refine XL.ld o_int rfl (by rfl) rfl ?_
              refine XL.bin rfl rfl rfl (bNeI) ?_
              refine XL.pkF rfl rfl rfl ?_
              refine XL.nil ?_
              refine XQ.thenN ?_
              refine XC.cond rfl (fun hc4 => ?_) (fun hc4 => ?_)
              · refine XC.seq ?_
                refine XC.reg ?_
                refine XL.bd z_seglog_Record p_seglog_Record rfl rfl ?_
                refine XL.stM g_seglog_Record rfl rfl rfl (by rfl) rfl ?_
                refine XL.as rfl rfl ?_
                refine XL.as rfl rfl ?_
                refine XL.as rfl rfl ?_
                refine XL.nil ?_
                refine XQ.thenN ?_
                refine XC.ret ?_
                refine XQ.thenR ?_
                refine XQ.blkR ?_
                refine XQ.thenR ?_
                refine XQ.thenR ?_
                refine XQ.blkR ?_
                refine XQ.thenR ?_
                exact XQ.ret (.inl rfl) rfl (rC (resN g_seglog_Record rfl rfl rfl) <| rC (resT rfl) <| rC (resT rfl) <| rC (resT rfl) <| rN) [logB b c v bd pl, diskC bd D] (by rcases hp : ptOf (sec D.now (2 + 16 * id + at_ + z.1)) with _ | p; (rw [hz.no hkk hroom hp]; exact ⟨rfl, rfl⟩); (rw [hz.bad hkk hroom hp (by rintro ⟨q1, q2⟩; simp only [hp, Option.getD_some, Option.isSome_some] at *; first | omega | simp_all)]; exact ⟨rfl, rfl⟩)) (fun w h => Take.sat (t5.c <| t1.c <| t4.c tn) h)
              · refine XC.skip ?_
                refine XQ.thenN ?_
                have hbl := ptD_len (sec D.now (2 + 16 * id + at_ + z.1))
                have hzl := hz.len
                refine XC.reg ?_
                refine XL.fa fo_seglog_part_4 rfl rfl ?_
                refine XL.ld o_string rfl (by rfl) rfl ?_
                refine XL.call hb_strings_Builder_WriteString rfl rfl (strings_Builder_WriteString_fn b13 z.2.2 ((ptOf (sec D.now (2 + 16 * id + at_ + z.1))).getD ptZ).body (by have := hz.len; omega)) (t2.c tn) ?_
                rintro _ _ ⟨rfl, rfl⟩
                simp only [List.cons_append, List.nil_append]
                refine XL.nil ?_
                refine XQ.blkN ?_
                refine XQ.thenN ?_
                refine XC.reg ?_
                refine XL.mv rfl rfl ?_
                refine XL.bin rfl rfl rfl (bAdd (by omega)) ?_
                refine XL.as rfl rfl ?_
                refine XL.nil ?_
                have hsome : ∃ p, ptOf (sec D.now (2 + 16 * id + at_ + z.1)) = some p := by cases h : ptOf (sec D.now (2 + 16 * id + at_ + z.1)) with | none => (simp [h] at hg64) | some p => exact ⟨p, rfl⟩
                obtain ⟨p, hp⟩ := hsome
                have hpd : (ptOf (sec D.now (2 + 16 * id + at_ + z.1))).getD ptZ = p := by rw [hp]; rfl
                rw [hpd] at hg70 hg77 hg84 hc4
                have q1 : p.n = z.1 := by omega
                refine XQ.again (z.1 + 1, p, z.2.2 ++ p.body) (hz.step0 (by omega) hroom hp q1) (by dsimp only; omega) ⟨rfl, rfl, rfl, rfl, rfl, rfl, rfl, rfl, trivial⟩ (fun w h => by rw [hpd] at h; exact Take.sat (t0.c <| t2.c <| t2.c <| t2.c <| t1.c <| t1.c tn) h)
  · refine XL.mv rfl rfl ?_
    refine XL.fa fo_seglog_part_3 rfl rfl ?_
    refine XL.ld o_int rfl (by rfl) rfl ?_
    refine XL.bin rfl rfl rfl (bLss) ?_
    refine XL.pkF rfl rfl rfl ?_
    refine XL.nil ?_
    refine XQ.thenN ?_
    refine XC.cond rfl (fun hc0 => ?_) (fun hc0 => ?_)
    · refine XC.skip ?_
      refine XQ.thenN ?_
      refine XC.seq ?_
      refine XC.block ?_
      refine XC.seq ?_
      refine XC.seq ?_
      have hk16 := hz.small
      have hkk : z.1 = 0 ∨ z.1 < z.2.1.of := by omega
      refine XC.reg ?_
      refine XL.mv rfl rfl ?_
      refine XL.mv rfl rfl ?_
      refine XL.bin rfl rfl rfl (bAdd (by omega)) ?_
      refine XL.mv rfl rfl ?_
      refine XL.bin rfl rfl rfl (bGeq) ?_
      refine XL.nil ?_
      refine XQ.thenN ?_
      refine XC.cond rfl (fun hc1 => ?_) (fun hc1 => ?_)
      · refine XC.seq ?_
        refine XC.reg ?_
        refine XL.bd z_seglog_Record p_seglog_Record rfl rfl ?_
        refine XL.stM g_seglog_Record rfl rfl rfl (by rfl) rfl ?_
        refine XL.as rfl rfl ?_
        refine XL.as rfl rfl ?_
        refine XL.as rfl rfl ?_
        refine XL.nil ?_
        refine XQ.thenN ?_
        refine XC.ret ?_
        refine XQ.thenR ?_
        refine XQ.blkR ?_
        refine XQ.thenR ?_
        refine XQ.thenR ?_
        refine XQ.blkR ?_
        refine XQ.thenR ?_
        exact XQ.ret (.inl rfl) rfl (rC (resN g_seglog_Record rfl rfl rfl) <| rC (resT rfl) <| rC (resT rfl) <| rC (resT rfl) <| rN) [logB b c v bd pl, diskC bd D] (by rw [hz.out hkk (by omega)]; exact ⟨rfl, rfl⟩) (fun w h => Take.sat (t3.c <| t3.c <| t3.c tn) h)
      · have hsl : (sec D.now (2 + 16 * id + at_ + z.1)).length = 256 := sec_length hsec
        have hroom : z.1 < en - at_ := by omega
        refine XC.skip ?_
        refine XQ.thenN ?_
        refine XC.seq ?_
        refine XC.reg ?_
        refine XL.mv rfl rfl ?_
        refine XL.ncP rfl rfl ?_
        refine XL.fa fo_seglog_Log_1 rfl rfl ?_
        refine XL.ld o_P_sector_Disk rfl (by rfl) rfl ?_
        refine XL.mv rfl rfl ?_
        refine XL.bin rfl rfl rfl (bMul (by omega)) ?_
        refine XL.bin rfl rfl rfl (bAdd (by omega)) ?_
        refine XL.mv rfl rfl ?_
        refine XL.bin rfl rfl rfl (bAdd (by omega)) ?_
        refine XL.mv rfl rfl ?_
        refine XL.bin rfl rfl rfl (bAdd (by omega)) ?_
        refine XL.re 46 (u := .int .i64 ((2 + 16 * id + at_ + z.1 : Nat) : Int)) rfl (congrArg (Value.int .i64) (by omega)) ?_
        refine XL.call hb_sector_Disk_Read rfl rfl (sector_Disk_Read_fn bd D (2 + 16 * id + at_ + z.1) (by omega) hsz (hsec _ (List.getElem_mem _)) hoff) (t4.c tn) ?_
        rintro _ _ ⟨rfl, rfl⟩
        simp only [List.cons_append, List.nil_append]
        refine XL.mv rfl rfl ?_
        refine XL.re 35 (u := .tuple #[S (sec D.now (2 + 16 * id + at_ + z.1)), .int .i64 0]) rfl (by rw [show sec D.now (2 + 16 * id + at_ + z.1) = full (D.now[2 + 16 * id + at_ + z.1]) by unfold sec; congr 1; exact (List.getElem_eq_getD []).symm]) ?_
        refine XL.ex rfl rfl rfl ?_
        refine XL.ex rfl rfl rfl ?_
        refine XL.as rfl rfl ?_
        refine XL.as rfl rfl ?_
        refine XL.nil ?_
        refine XQ.thenN ?_
        refine XC.seq ?_
        refine XC.seq ?_
        refine XC.reg ?_
        refine XL.mv rfl rfl ?_
        refine XL.bin rfl rfl rfl (bNeI) ?_
        refine XL.nil ?_
        refine XQ.thenN ?_
        refine XC.condF' rfl (decide_eq_false (by omega)) ?_
        refine XC.skip ?_
        refine XQ.thenN ?_
        refine XC.seq ?_
        refine XC.reg ?_
        refine XL.mv rfl rfl ?_
        refine XL.call hb_seglog_partOf rfl rfl (seglog_partOf_fn (sec D.now (2 + 16 * id + at_ + z.1)) hsl) (tn) ?_
        rintro _ _ ⟨rfl, rfl⟩
        simp only [List.cons_append, List.nil_append]
        refine XL.mv rfl rfl ?_
        refine XL.ex rfl rfl rfl ?_
        refine XL.ex rfl rfl rfl ?_
        refine XL.al z_seglog_part rfl (fun b17 => ?_)
        refine XL.stM g_seglog_part rfl rfl rfl (by rfl) rfl ?_
        refine XL.as rfl rfl ?_
        refine XL.nil ?_
        refine XQ.thenN ?_
        refine XC.seq ?_
        refine XC.seq ?_
        refine XC.reg ?_
        refine XL.mv rfl rfl ?_
        refine XL.bin rfl rfl rfl (bEqI) ?_
        refine XL.nil ?_
        refine XQ.thenN ?_
        refine XC.condF' rfl (decide_eq_false (by omega)) ?_
        refine XC.skip ?_
        refine XQ.thenN ?_
        refine XC.seq ?_
        refine XC.seq ?_
        refine XC.reg ?_
        refine XL.mv rfl rfl ?_
        refine XL.notT rfl rfl ?_
        refine XL.mv rfl rfl ?_
        refine XL.splitB 64 rfl (fun hg64 => ?_) (fun hg64 => ?_)
        · refine XL.no rfl rfl ?_
          refine XL.no rfl rfl ?_
          refine XL.no rfl rfl ?_
          refine XL.no rfl rfl ?_
          refine XL.pkT rfl rfl rfl ?_
          refine XL.mv rfl rfl ?_
          refine XL.no rfl rfl ?_
          refine XL.no rfl rfl ?_
          refine XL.no rfl rfl ?_
          refine XL.no rfl rfl ?_
          refine XL.no rfl rfl ?_
          refine XL.pkT rfl rfl rfl ?_
          refine XL.mv rfl rfl ?_
          refine XL.no rfl rfl ?_
          refine XL.no rfl rfl ?_
          refine XL.no rfl rfl ?_
          refine XL.no rfl rfl ?_
          refine XL.no rfl rfl ?_
          refine XL.pkT rfl rfl rfl ?_
          refine XL.mv rfl rfl ?_
          refine XL.no rfl rfl ?_
          refine XL.no rfl rfl ?_
          refine XL.no rfl rfl ?_
          refine XL.no rfl rfl ?_
          refine XL.no rfl rfl ?_
          refine XL.pkT rfl rfl rfl ?_
          refine XL.nil ?_
          refine XQ.thenN ?_
          refine XC.condT rfl ?_
          refine XC.seq ?_
          refine XC.reg ?_
          refine XL.bd z_seglog_Record p_seglog_Record rfl rfl ?_
          refine XL.stM g_seglog_Record rfl rfl rfl (by rfl) rfl ?_
          refine XL.as rfl rfl ?_
          refine XL.as rfl rfl ?_
          refine XL.as rfl rfl ?_
          refine XL.nil ?_
          refine XQ.thenN ?_
          refine XC.ret ?_
          refine XQ.thenR ?_
          refine XQ.blkR ?_
          refine XQ.thenR ?_
          refine XQ.thenR ?_
          refine XQ.blkR ?_
          refine XQ.thenR ?_
          exact XQ.ret (.inl rfl) rfl (rC (resN g_seglog_Record rfl rfl rfl) <| rC (resT rfl) <| rC (resT rfl) <| rC (resT rfl) <| rN) [logB b c v bd pl, diskC bd D] (by rcases hp : ptOf (sec D.now (2 + 16 * id + at_ + z.1)) with _ | p; (rw [hz.no hkk hroom hp]; exact ⟨rfl, rfl⟩); (rw [hz.bad hkk hroom hp (by rintro ⟨q1, q2⟩; simp only [hp, Option.getD_some, Option.isSome_some] at *; first | omega | simp_all)]; exact ⟨rfl, rfl⟩)) (fun w h => Take.sat (t5.c <| t1.c <| t4.c tn) h)
        · refine XL.fa fo_seglog_part_2 rfl rfl ?_
          refine XL.ld o_int rfl (by rfl) rfl ?_
          refine XL.mv rfl rfl ?_
          refine XL.bin rfl rfl rfl (bNeI) ?_
          refine XL.pkF rfl rfl rfl ?_
          refine XL.mv rfl rfl ?_
          refine XL.split 70 rfl (fun hg70 => ?_) (fun hg70 => ?_)
          · refine XL.no rfl rfl ?_
            refine XL.no rfl rfl ?_
            refine XL.no rfl rfl ?_
            refine XL.no rfl rfl ?_
            refine XL.no rfl rfl ?_
            refine XL.pkT rfl rfl rfl ?_
            refine XL.mv rfl rfl ?_
            refine XL.no rfl rfl ?_
            refine XL.no rfl rfl ?_
            refine XL.no rfl rfl ?_
            refine XL.no rfl rfl ?_
            refine XL.no rfl rfl ?_
            refine XL.pkT rfl rfl rfl ?_
            refine XL.mv rfl rfl ?_
            refine XL.no rfl rfl ?_
            refine XL.no rfl rfl ?_
            refine XL.no rfl rfl ?_
            refine XL.no rfl rfl ?_
            refine XL.no rfl rfl ?_
            refine XL.pkT rfl rfl rfl ?_
            refine XL.nil ?_
            refine XQ.thenN ?_
            refine XC.condT rfl ?_
            refine XC.seq ?_
            refine XC.reg ?_
            refine XL.bd z_seglog_Record p_seglog_Record rfl rfl ?_
            refine XL.stM g_seglog_Record rfl rfl rfl (by rfl) rfl ?_
            refine XL.as rfl rfl ?_
            refine XL.as rfl rfl ?_
            refine XL.as rfl rfl ?_
            refine XL.nil ?_
            refine XQ.thenN ?_
            refine XC.ret ?_
            refine XQ.thenR ?_
            refine XQ.blkR ?_
            refine XQ.thenR ?_
            refine XQ.thenR ?_
            refine XQ.blkR ?_
            refine XQ.thenR ?_
            exact XQ.ret (.inl rfl) rfl (rC (resN g_seglog_Record rfl rfl rfl) <| rC (resT rfl) <| rC (resT rfl) <| rC (resT rfl) <| rN) [logB b c v bd pl, diskC bd D] (by rcases hp : ptOf (sec D.now (2 + 16 * id + at_ + z.1)) with _ | p; (rw [hz.no hkk hroom hp]; exact ⟨rfl, rfl⟩); (rw [hz.bad hkk hroom hp (by rintro ⟨q1, q2⟩; simp only [hp, Option.getD_some, Option.isSome_some] at *; first | omega | simp_all)]; exact ⟨rfl, rfl⟩)) (fun w h => Take.sat (t5.c <| t1.c <| t4.c tn) h)
          · refine XL.fa fo_seglog_part_0 rfl rfl ?_
            refine XL.ld o_int rfl (by rfl) rfl ?_
            refine XL.fa fo_seglog_part_0 rfl rfl ?_
            refine XL.ld o_int rfl (by rfl) rfl ?_
            refine XL.bin rfl rfl rfl (bNeI) ?_
            refine XL.pkF rfl rfl rfl ?_
            refine XL.mv rfl rfl ?_
            refine XL.split 77 rfl (fun hg77 => ?_) (fun hg77 => ?_)
            · refine XL.no rfl rfl ?_
              refine XL.no rfl rfl ?_
              refine XL.no rfl rfl ?_
              refine XL.no rfl rfl ?_
              refine XL.no rfl rfl ?_
              refine XL.pkT rfl rfl rfl ?_
              refine XL.mv rfl rfl ?_
              refine XL.no rfl rfl ?_
              refine XL.no rfl rfl ?_
              refine XL.no rfl rfl ?_
              refine XL.no rfl rfl ?_
              refine XL.no rfl rfl ?_
              refine XL.pkT rfl rfl rfl ?_
              refine XL.nil ?_
              refine XQ.thenN ?_
              refine XC.condT rfl ?_
              refine XC.seq ?_
              refine XC.reg ?_
              refine XL.bd z_seglog_Record p_seglog_Record rfl rfl ?_
              refine XL.stM g_seglog_Record rfl rfl rfl (by rfl) rfl ?_
              refine XL.as rfl rfl ?_
              refine XL.as rfl rfl ?_
              refine XL.as rfl rfl ?_
              refine XL.nil ?_
              refine XQ.thenN ?_
              refine XC.ret ?_
              refine XQ.thenR ?_
              refine XQ.blkR ?_
              refine XQ.thenR ?_
              refine XQ.thenR ?_
              refine XQ.blkR ?_
              refine XQ.thenR ?_
              exact XQ.ret (.inl rfl) rfl (rC (resN g_seglog_Record rfl rfl rfl) <| rC (resT rfl) <| rC (resT rfl) <| rC (resT rfl) <| rN) [logB b c v bd pl, diskC bd D] (by rcases hp : ptOf (sec D.now (2 + 16 * id + at_ + z.1)) with _ | p; (rw [hz.no hkk hroom hp]; exact ⟨rfl, rfl⟩); (rw [hz.bad hkk hroom hp (by rintro ⟨q1, q2⟩; simp only [hp, Option.getD_some, Option.isSome_some] at *; first | omega | simp_all)]; exact ⟨rfl, rfl⟩)) (fun w h => Take.sat (t5.c <| t1.c <| t4.c tn) h)
            · refine XL.fa fo_seglog_part_1 rfl rfl ?_
              refine XL.ld o_int rfl (by rfl) rfl ?_
              refine XL.fa fo_seglog_part_1 rfl rfl ?_
              refine XL.ld o_int rfl (by rfl) rfl ?_
              refine XL.bin rfl rfl rfl (bNeI) ?_
              refine XL.pkF rfl rfl rfl ?_
              refine XL.mv rfl rfl ?_
              refine XL.split 84 rfl (fun hg84 => ?_) (fun hg84 => ?_)
              · refine XL.no rfl rfl ?_
                refine XL.no rfl rfl ?_
                refine XL.no rfl rfl ?_
                refine XL.no rfl rfl ?_
                refine XL.no rfl rfl ?_
                refine XL.pkT rfl rfl rfl ?_
                refine XL.nil ?_
                refine XQ.thenN ?_
                refine XC.condT rfl ?_
                refine XC.seq ?_
                refine XC.reg ?_
                refine XL.bd z_seglog_Record p_seglog_Record rfl rfl ?_
                refine XL.stM g_seglog_Record rfl rfl rfl (by rfl) rfl ?_
                refine XL.as rfl rfl ?_
                refine XL.as rfl rfl ?_
                refine XL.as rfl rfl ?_
                refine XL.nil ?_
                refine XQ.thenN ?_
                refine XC.ret ?_
                refine XQ.thenR ?_
                refine XQ.blkR ?_
                refine XQ.thenR ?_
                refine XQ.thenR ?_
                refine XQ.blkR ?_
                refine XQ.thenR ?_
                exact XQ.ret (.inl rfl) rfl (rC (resN g_seglog_Record rfl rfl rfl) <| rC (resT rfl) <| rC (resT rfl) <| rC (resT rfl) <| rN) [logB b c v bd pl, diskC bd D] (by rcases hp : ptOf (sec D.now (2 + 16 * id + at_ + z.1)) with _ | p; (rw [hz.no hkk hroom hp]; exact ⟨rfl, rfl⟩); (rw [hz.bad hkk hroom hp (by rintro ⟨q1, q2⟩; simp only [hp, Option.getD_some, Option.isSome_some] at *; first | omega | simp_all)]; exact ⟨rfl, rfl⟩)) (fun w h => Take.sat (t5.c <| t1.c <| t4.c tn) h)
              · refine XL.fa fo_seglog_part_3 rfl rfl ?_
                refine XL.ld o_int rfl (by rfl) rfl ?_
                refine XL.fa fo_seglog_part_3 rfl rfl ?_
                refine XL.ld o_int rfl (by rfl) rfl ?_
                refine XL.bin rfl rfl rfl (bNeI) ?_
                refine XL.pkF rfl rfl rfl ?_
                refine XL.nil ?_
                refine XQ.thenN ?_
                refine XC.cond rfl (fun hc4 => ?_) (fun hc4 => ?_)
                · refine XC.seq ?_
                  refine XC.reg ?_
                  refine XL.bd z_seglog_Record p_seglog_Record rfl rfl ?_
                  refine XL.stM g_seglog_Record rfl rfl rfl (by rfl) rfl ?_
                  refine XL.as rfl rfl ?_
                  refine XL.as rfl rfl ?_
                  refine XL.as rfl rfl ?_
                  refine XL.nil ?_
                  refine XQ.thenN ?_
                  refine XC.ret ?_
                  refine XQ.thenR ?_
                  refine XQ.blkR ?_
                  refine XQ.thenR ?_
                  refine XQ.thenR ?_
                  refine XQ.blkR ?_
                  refine XQ.thenR ?_
                  exact XQ.ret (.inl rfl) rfl (rC (resN g_seglog_Record rfl rfl rfl) <| rC (resT rfl) <| rC (resT rfl) <| rC (resT rfl) <| rN) [logB b c v bd pl, diskC bd D] (by rcases hp : ptOf (sec D.now (2 + 16 * id + at_ + z.1)) with _ | p; (rw [hz.no hkk hroom hp]; exact ⟨rfl, rfl⟩); (rw [hz.bad hkk hroom hp (by rintro ⟨q1, q2⟩; simp only [hp, Option.getD_some, Option.isSome_some] at *; first | omega | simp_all)]; exact ⟨rfl, rfl⟩)) (fun w h => Take.sat (t5.c <| t1.c <| t4.c tn) h)
                · refine XC.skip ?_
                  refine XQ.thenN ?_
                  have hbl := ptD_len (sec D.now (2 + 16 * id + at_ + z.1))
                  have hzl := hz.len
                  refine XC.reg ?_
                  refine XL.fa fo_seglog_part_4 rfl rfl ?_
                  refine XL.ld o_string rfl (by rfl) rfl ?_
                  refine XL.call hb_strings_Builder_WriteString rfl rfl (strings_Builder_WriteString_fn b13 z.2.2 ((ptOf (sec D.now (2 + 16 * id + at_ + z.1))).getD ptZ).body (by have := hz.len; omega)) (t2.c tn) ?_
                  rintro _ _ ⟨rfl, rfl⟩
                  simp only [List.cons_append, List.nil_append]
                  refine XL.nil ?_
                  refine XQ.blkN ?_
                  refine XQ.thenN ?_
                  refine XC.reg ?_
                  refine XL.mv rfl rfl ?_
                  refine XL.bin rfl rfl rfl (bAdd (by omega)) ?_
                  refine XL.as rfl rfl ?_
                  refine XL.nil ?_
                  have hsome : ∃ p, ptOf (sec D.now (2 + 16 * id + at_ + z.1)) = some p := by cases h : ptOf (sec D.now (2 + 16 * id + at_ + z.1)) with | none => (simp [h] at hg64) | some p => exact ⟨p, rfl⟩
                  obtain ⟨p, hp⟩ := hsome
                  have hpd : (ptOf (sec D.now (2 + 16 * id + at_ + z.1))).getD ptZ = p := by rw [hp]; rfl
                  rw [hpd] at hg70 hg77 hg84 hc4
                  have q1 : p.n = z.1 := by omega
                  have q2 : p.boot = z.2.1.boot ∧ p.seq = z.2.1.seq ∧ p.of = z.2.1.of := by omega
                  have q0 : z.1 ≠ 0 ∧ z.1 < z.2.1.of := by omega
                  refine XQ.again (z.1 + 1, z.2.1, z.2.2 ++ p.body) (hz.step q0.1 q0.2 hroom hp q1 q2.1 q2.2.1 q2.2.2) (by dsimp only; omega) ⟨rfl, rfl, rfl, rfl, rfl, rfl, rfl, rfl, trivial⟩ (fun w h => by rw [hpd] at h; exact Take.sat (t0.c <| t2.c <| t2.c <| t2.c <| t1.c <| t1.c tn) h)
    · refine XC.exit ?_
      refine XQ.thenE ?_
      refine XQ.thenE ?_
      refine XQ.blkE ?_
      refine XQ.thenN ?_
      refine XC.seq ?_
      refine XC.drw (.q 0 <| .q 1 <| .q 2 <| .q 3 <| .q 4 <| .q 5 <| .q 6 <| .q 7 <| .q 8 <| .e 9 <| .r 5 <| .r 6 <| .r 7 <| .r 8 <| .q 10 <| .q 11 <| .e 12 <| .done) mixed (by kernel_rfl) rfl ?_
      refine JP.qq rfl rfl rfl (XL.fa fo_seglog_part_1 rfl rfl XL.qd) ?_
      refine JP.qq rfl rfl rfl (XL.ld o_int rfl (by rfl) rfl XL.qd) ?_
      refine JP.qq rfl rfl rfl (XL.mv rfl rfl XL.qd) ?_
      refine JP.qq rfl rfl rfl (XL.call hb_strings_Builder_String rfl rfl (strings_Builder_String_fn b13 z.2.2 (by have := hz.len; have := hz.small; omega)) (t0.c tn) (by rintro _ _ ⟨rfl, rfl⟩; exact XL.qdp (fun w h => h))) ?_
      refine JP.qq rfl rfl rfl (XL.bd z_seglog_Record p_seglog_Record rfl rfl XL.qd) ?_
      refine JP.qq rfl rfl rfl (XL.fa fo_seglog_part_3 rfl rfl XL.qd) ?_
      refine JP.qq rfl rfl rfl (XL.ld o_int rfl (by rfl) rfl XL.qd) ?_
      refine JP.qq rfl rfl rfl (XL.fa fo_seglog_part_0 rfl rfl XL.qd) ?_
      refine JP.qq rfl rfl rfl (XL.ld o_int rfl (by rfl) rfl XL.qd) ?_
      refine JP.ee rfl ?_
      refine XL.stM g_seglog_Record rfl rfl rfl (by rfl) rfl ?_
      refine XL.edn ?_
      refine JP.rr rfl rfl rfl (XL.fa fo_seglog_part_3 rfl rfl XL.qd) ?_
      refine JP.rr rfl rfl rfl (XL.ld o_int rfl (by rfl) rfl XL.qd) ?_
      refine JP.rr rfl rfl rfl (XL.fa fo_seglog_part_0 rfl rfl XL.qd) ?_
      refine JP.rr rfl rfl rfl (XL.ld o_int rfl (by rfl) rfl XL.qd) ?_
      refine JP.qq rfl rfl rfl (XL.as rfl rfl XL.qd) ?_
      refine JP.qq rfl rfl rfl (XL.as rfl rfl XL.qd) ?_
      refine JP.ee rfl ?_
      refine XL.as rfl rfl ?_
      refine XL.ed ?_
      refine JP.done ?_
      refine XQ.thenN ?_
      refine XC.ret ?_
      exact XQ.ret (.inl rfl) rfl (rC (resN g_seglog_Record rfl rfl rfl) <| rC (resT rfl) <| rC (resT rfl) <| rC (resT rfl) <| rN) [logB b c v bd pl, diskC bd D] (by rw [hz.done (by omega) (by omega)]; exact ⟨rfl, rfl⟩) (fun w h => Take.sat (t3.c <| t3.c <| t3.c tn) h)
end Go.Proofs.YthlfbndanknnmaaDoor
