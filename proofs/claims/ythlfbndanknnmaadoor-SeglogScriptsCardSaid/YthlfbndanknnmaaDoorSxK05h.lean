/-
  Package seglog: the records behind a checkpoint. Printed by mk.py out of spec_k05h.py.
-/
import Derived.Test.YthlfbndanknnmaaDoorSxK05g
namespace Go.Proofs.YthlfbndanknnmaaDoor
open Go Go.Sx

def Ck.lst (c : Ck) : Nat × Nat := c.segs.getD (c.segs.length - 1) (0, 0)
theorem lst_at {c : Ck} {m : Nat} (hm : c.segs.length = m) (h : m - 1 < c.segs.length) : c.segs[m - 1] = c.lst := by
  subst hm; unfold Ck.lst; simp [List.getElem?_eq_getElem h]
def Ck.more (c : Ck) (n : Nat) : Ck := { c with seq := c.seq + 1, segs := c.segs.set (c.segs.length - 1) (c.lst.1, c.lst.2 + n) }
theorem more_lst {c : Ck} {n : Nat} (h : 0 < c.segs.length) : (c.more n).lst = (c.lst.1, c.lst.2 + n) := by
  simp only [Ck.lst, Ck.more, List.length_set, List.getD_eq_getElem?_getD, List.getElem?_set]
  rw [if_pos trivial, if_pos (by omega)]; rfl
/-- What lies behind a checkpoint. -/
def furM (now : List (List UInt8)) : Nat → Ck → List RecS → Ck × List RecS
  | 0, c, out => (c, out)
  | n + 1, c, out => if 1152921504606846976 ≤ c.seq then (c, out) else match recOf now (2 + 16 * c.lst.1 + c.lst.2) (16 - c.lst.2) with
    | none => (c, out)
    | some (p, b) => if p.boot = c.boot ∧ p.seq = c.seq then furM now n (c.more p.of) (out ++ [⟨p.seq, c.lst.1, b⟩]) else (c, out)
structure FuI (now : List (List UInt8)) (c0 : Ck) (out0 : List RecS) (n : Nat) (c : Ck) (out : List RecS) : Prop where
  k : n ≤ c.lst.2
  u : c.lst.2 ≤ 16
  m : c.segs.length = c0.segs.length
  id : c.lst.1 = c0.lst.1
  q : c.seq ≤ 1152921504606846976
  len : out.length ≤ out0.length + n
  eq : furM now 17 c0 out0 = furM now (17 - n) c out
section
variable {now : List (List UInt8)} {c0 c : Ck} {out0 out : List RecS} {n : Nat}
theorem FuI.full (h : FuI now c0 out0 n c out) (hs : 1152921504606846976 ≤ c.seq) : furM now 17 c0 out0 = (c, out) := by
  have := h.k; have := h.u
  rw [h.eq, show 17 - n = (16 - n) + 1 by omega, furM, if_pos hs]
theorem FuI.stop (h : FuI now c0 out0 n c out) (hr : ∀ p b, recOf now (2 + 16 * c.lst.1 + c.lst.2) (16 - c.lst.2) = some (p, b) → ¬ (p.boot = c.boot ∧ p.seq = c.seq)) : furM now 17 c0 out0 = (c, out) := by
  have := h.k; have := h.u
  rw [h.eq, show 17 - n = (16 - n) + 1 by omega, furM]
  split
  · rfl
  · split
    · rfl
    · rename_i p b hp
      rw [if_neg (hr p b hp)]
theorem FuI.step (h : FuI now c0 out0 n c out) (h0 : 0 < c0.segs.length) (hs : ¬ 1152921504606846976 ≤ c.seq) {p : Pt} {b : List UInt8} (hr : recOf now (2 + 16 * c.lst.1 + c.lst.2) (16 - c.lst.2) = some (p, b)) (hb : p.boot = c.boot ∧ p.seq = c.seq) :
    FuI now c0 out0 (n + 1) (c.more p.of) (out ++ [⟨p.seq, c.lst.1, b⟩]) := by
  have h1 := h.k; have h2 := h.u; have h3 := recOf_of hr
  have hl := more_lst (c := c) (n := p.of) (by rw [h.m]; exact h0)
  refine ⟨by rw [hl]; dsimp only; omega, by rw [hl]; dsimp only; omega, by simp [Ck.more, h.m], by rw [hl]; exact h.id, by simp only [Ck.more]; omega, by have := h.len; simp; omega, ?_⟩
  rw [h.eq, show 17 - n = (17 - (n + 1)) + 1 by omega, furM, if_neg hs, hr]
  dsimp only
  rw [if_pos hb]
end
theorem recordT_fn (b bd : Nat) (c : Ck) (v : Value) (pl : Nat) (D : DiskS) (id at_ en : Nat) (hid : id ≤ 64) (hen : en ≤ 16) (hat : at_ ≤ 16) (hlen : 18 + 16 * id ≤ D.now.length) (hsz : D.now.length ≤ 1026) (hsec : ∀ s ∈ D.now, s.length ≤ 256) (hoff : D.off = false) [OneV v] :
    Does P F_seglog_Log_record [.pointer (some ⟨b, 0, none⟩), .int .i64 (id : Int), .int .i64 (at_ : Int), .int .i64 (en : Int)] [logB b c v bd pl, diskC bd D] fun u cs =>
      u = .tuple #[recV (recD (recOf D.now (2 + 16 * id + at_) (en - at_))).1.seq (if (recOf D.now (2 + 16 * id + at_) (en - at_)).isSome then id else 0) (recD (recOf D.now (2 + 16 * id + at_) (en - at_))).2, .int .i64 ((recD (recOf D.now (2 + 16 * id + at_) (en - at_))).1.of : Int), .int .i64 ((recD (recOf D.now (2 + 16 * id + at_) (en - at_))).1.boot : Int), .int .i64 0] ∧ cs = [logB b c v bd pl, diskC bd D] :=
  (seglog_Log_record_fn b bd c v pl D id at_ en hid hen hat hlen hsz hsec hoff).mono fun u cs ⟨h1, h2⟩ => ⟨by rw [h1, recR_eq], h2⟩

theorem seglog_Log_further_fn (b bd pl : Nat) (c : Ck) (v vo : Value) (out : List RecS) (D : DiskS) (hD : Good D) (h0 : 0 < c.segs.length) (hc : c.segs.length ≤ 64) (hq : c.seq ≤ 1152921504606846976) (hl : c.lst.2 ≤ 16) (ho : out.length ≤ 10000) (hseg : 18 + 16 * c.lst.1 ≤ D.now.length) :
  Does P F_seglog_Log_further [.pointer (some ⟨b, 0, none⟩), vo] [logB b c v bd pl, diskC bd D, c.sl v, recS vo out] fun u cs => ∃ vo', u = .tuple #[vo', .int .i64 0] ∧ cs = [logB b (furM D.now 17 c out).1 v bd pl, diskC bd D, (furM D.now 17 c out).1.sl v, recS vo' (furM D.now 17 c out).2] := by
  refine Does.mk (N := 83) fn_seglog_Log_further rfl rfl rfl (fun F => ?_)
  simp only [List.cons_append, List.nil_append]
  refine XC.oneV v (fun _ => ?_)
  refine XC.isAt v 0 h0 (fun bs _ => ?_)
  refine XC.seq ?_
  refine XC.reg ?_
  refine XL.as rfl rfl ?_
  refine XL.as rfl rfl ?_
  refine XL.nil ?_
  refine XQ.thenN ?_
  refine XC.seq ?_
  refine XC.reg ?_
  refine XL.mv rfl rfl ?_
  refine XL.ncP rfl rfl ?_
  refine XL.fa fo_seglog_Log_0 rfl rfl ?_
  refine XL.ldM g_seglog_checkpoint rfl (by rfl) rfl ?_
  refine XL.call hb_seglog_checkpoint_last rfl rfl (seglog_checkpoint_last_fn c v bs h0 hc) (t2.c tn) ?_
  rintro _ _ ⟨rfl, rfl⟩
  simp only [List.cons_append, List.nil_append]
  refine XL.as rfl rfl ?_
  refine XL.nil ?_
  refine XQ.thenN ?_
  refine XC.seq ?_
  refine XC.block ?_
  refine XC.loop (ι := Nat × Ck × List RecS × Value) (fun z => [(0, .pointer (some ⟨b, 0, none⟩)), (1, z.2.2.2), (6, .pointer (some ⟨bs, (c.segs.length - 1) * 2, none⟩))]) (fun z => [logB b z.2.1 v bd pl, diskC bd D, (z.2.1).sl v, recS z.2.2.2 z.2.2.1, F])
    (fun z => FuI D.now c out z.1 z.2.1 z.2.2.1) (fun z => 17 - z.1) (0, c, out, vo) ⟨Nat.zero_le _, hl, rfl, rfl, hq, by simp, rfl⟩ ⟨rfl, rfl, rfl, trivial⟩ (fun w h => Take.sat (t1.c <| t1.c <| t0.c <| t0.c <| t0.c tn) h) (fun z hz => ?_)
  refine XC.seq ?_
  refine XC.seq ?_
  refine XC.reg ?_
  refine XL.mv rfl rfl ?_
  refine XL.ncP rfl rfl ?_
  refine XL.fa fo_seglog_Log_0 rfl rfl ?_
  refine XL.fa fo_seglog_checkpoint_2 rfl rfl ?_
  refine XL.ld o_int rfl (by rfl) rfl ?_
  refine XL.bin rfl rfl rfl (bLss) ?_
  refine XL.nil ?_
  refine XQ.thenN ?_
  refine XC.cond rfl (fun hc0 => ?_) (fun hc0 => ?_)
  · have hj : c.segs.length - 1 < z.2.1.segs.length := by rw [hz.m]; omega
    have hla := lst_at hz.m hj
    have hzl := hz.len
    have hzu := hz.u
    have hzk := hz.k
    refine XC.skip ?_
    refine XQ.thenN ?_
    refine XC.block ?_
    refine XC.seq ?_
    refine XC.drw (.q 0 <| .q 1 <| .q 2 <| .q 3 <| .q 4 <| .q 5 <| .q 6 <| .q 7 <| .q 8 <| .q 9 <| .q 10 <| .q 11 <| .q 12 <| .q 13 <| .q 14 <| .e 15 <| .r 0 <| .r 1 <| .r 2 <| .r 3 <| .r 4 <| .r 5 <| .r 6 <| .r 7 <| .r 8 <| .r 9 <| .r 10 <| .r 11 <| .r 12 <| .r 13 <| .r 14 <| .e 16 <| .r 12 <| .r 13 <| .r 14 <| .q 17 <| .q 18 <| .e 19 <| .done) mixed (by kernel_rfl) rfl ?_
    refine JP.qq rfl rfl rfl (XL.mv rfl rfl XL.qd) ?_
    refine JP.qq rfl rfl rfl (XL.mv rfl rfl XL.qd) ?_
    refine JP.qq rfl rfl rfl (XL.ncP rfl rfl XL.qd) ?_
    refine JP.qq rfl rfl rfl (XL.fa fo_seglog_Segment_0 rfl rfl XL.qd) ?_
    refine JP.qq rfl rfl rfl (XL.ldSf (o := 0) o_int rfl hj (by rw [hla]; rfl) rfl XL.qd) ?_
    refine JP.qq rfl rfl rfl (XL.mv rfl rfl XL.qd) ?_
    refine JP.qq rfl rfl rfl (XL.ncP rfl rfl XL.qd) ?_
    refine JP.qq rfl rfl rfl (XL.fa fo_seglog_Segment_1 rfl rfl XL.qd) ?_
    refine JP.qq rfl rfl rfl (XL.ldSf (o := 1) o_int rfl hj (by rw [hla]; rfl) rfl XL.qd) ?_
    refine JP.qq rfl rfl rfl (XL.call hb_seglog_Log_record rfl rfl (recordT_fn b bd z.2.1 v pl D z.2.1.lst.1 z.2.1.lst.2 16 (by have := hD.wf.most; rw [hz.id]; omega) (by omega) hz.u (by rw [hz.id]; exact hseg) hD.wf.most hD.wf.size hD.off) (t0.c <| t0.c tn) (by rintro _ _ ⟨rfl, rfl⟩; exact XL.qdp (fun w h => h))) ?_
    refine JP.qq rfl rfl rfl (XL.mv rfl rfl XL.qd) ?_
    refine JP.qq rfl rfl rfl (XL.ex rfl rfl rfl XL.qd) ?_
    refine JP.qq rfl rfl rfl (XL.ex rfl rfl rfl XL.qd) ?_
    refine JP.qq rfl rfl rfl (XL.ex rfl rfl rfl XL.qd) ?_
    refine JP.qq rfl rfl rfl (XL.ex rfl rfl rfl XL.qd) ?_
    refine JP.ee rfl ?_
    refine XL.al z_seglog_Record rfl (fun b7 => ?_)
    refine XL.ed ?_
    refine JP.rr rfl rfl rfl (XL.mv rfl rfl XL.qd) ?_
    refine JP.rr rfl rfl rfl (XL.mv rfl rfl XL.qd) ?_
    refine JP.rr rfl rfl rfl (XL.ncP rfl rfl XL.qd) ?_
    refine JP.rr rfl rfl rfl (XL.fa fo_seglog_Segment_0 rfl rfl XL.qd) ?_
    refine JP.rr rfl rfl rfl (XL.ldSf (o := 0) o_int rfl hj (by rw [hla]; rfl) rfl XL.qd) ?_
    refine JP.rr rfl rfl rfl (XL.mv rfl rfl XL.qd) ?_
    refine JP.rr rfl rfl rfl (XL.ncP rfl rfl XL.qd) ?_
    refine JP.rr rfl rfl rfl (XL.fa fo_seglog_Segment_1 rfl rfl XL.qd) ?_
    refine JP.rr rfl rfl rfl (XL.ldSf (o := 1) o_int rfl hj (by rw [hla]; rfl) rfl XL.qd) ?_
    refine JP.rr rfl rfl rfl (XL.call hb_seglog_Log_record rfl rfl (recordT_fn b bd z.2.1 v pl D z.2.1.lst.1 z.2.1.lst.2 16 (by have := hD.wf.most; rw [hz.id]; omega) (by omega) hz.u (by rw [hz.id]; exact hseg) hD.wf.most hD.wf.size hD.off) (t1.c <| t1.c tn) (by rintro _ _ ⟨rfl, rfl⟩; exact XL.qdp (fun w h => Take.sat (t2.c <| t0.c <| t0.c tall) h))) ?_
    refine JP.rr rfl rfl rfl (XL.mv rfl rfl XL.qd) ?_
    refine JP.rr rfl rfl rfl (XL.ex rfl rfl rfl XL.qd) ?_
    refine JP.rr rfl rfl rfl (XL.ex rfl rfl rfl XL.qd) ?_
    refine JP.rr rfl rfl rfl (XL.ex rfl rfl rfl XL.qd) ?_
    refine JP.rr rfl rfl rfl (XL.ex rfl rfl rfl XL.qd) ?_
    refine JP.ee rfl ?_
    refine XL.stM g_seglog_Record rfl rfl rfl (by rfl) rfl ?_
    refine XL.edn ?_
    refine JP.rr rfl rfl rfl (XL.ex rfl rfl rfl XL.qd) ?_
    refine JP.rr rfl rfl rfl (XL.ex rfl rfl rfl XL.qd) ?_
    refine JP.rr rfl rfl rfl (XL.ex rfl rfl rfl XL.qd) ?_
    refine JP.qq rfl rfl rfl (XL.as rfl rfl XL.qd) ?_
    refine JP.qq rfl rfl rfl (XL.as rfl rfl XL.qd) ?_
    refine JP.ee rfl ?_
    refine XL.as rfl rfl ?_
    refine XL.ed ?_
    refine JP.done ?_
    refine XQ.thenN ?_
    refine XC.seq ?_
    refine XC.seq ?_
    refine XC.reg ?_
    refine XL.mv rfl rfl ?_
    refine XL.bin rfl rfl rfl (bNeI) ?_
    refine XL.nil ?_
    refine XQ.thenN ?_
    refine XC.condF' rfl (decide_eq_false (by omega)) ?_
    refine XC.skip ?_
    refine XQ.thenN ?_
    refine XC.seq ?_
    refine XC.seq ?_
    refine XC.drw (.q 0 <| .q 1 <| .q 2 <| .q 3 <| .q 4 <| .q 5 <| .q 6 <| .q 7 <| .q 8 <| .q 9 <| .q 10 <| .q 11 <| .q 12 <| .q 13 <| .q 14 <| .q 15 <| .q 16 <| .q 17 <| .q 18 <| .q 19 <| .q 20 <| .done) mixed (by kernel_rfl) rfl ?_
    refine JP.qq rfl rfl rfl (XL.mv rfl rfl XL.qd) ?_
    refine JP.qq rfl rfl rfl (XL.bin rfl rfl rfl (bEqI) XL.qd) ?_
    refine JP.qq rfl rfl rfl (XL.mv rfl rfl XL.qd) ?_
    refine JP.split 42 rfl (fun hg42 => ?_) (fun hg42 => ?_)
    · refine JP.qq rfl rfl rfl (XL.no rfl rfl XL.qd) ?_
      refine JP.qq rfl rfl rfl (XL.no rfl rfl XL.qd) ?_
      refine JP.qq rfl rfl rfl (XL.no rfl rfl XL.qd) ?_
      refine JP.qq rfl rfl rfl (XL.no rfl rfl XL.qd) ?_
      refine JP.qq rfl rfl rfl (XL.no rfl rfl XL.qd) ?_
      refine JP.qq rfl rfl rfl (XL.no rfl rfl XL.qd) ?_
      refine JP.qq rfl rfl rfl (XL.no rfl rfl XL.qd) ?_
      refine JP.qq rfl rfl rfl (XL.pkT rfl rfl rfl XL.qd) ?_
      refine JP.qq rfl rfl rfl (XL.mv rfl rfl XL.qd) ?_
      refine JP.qq rfl rfl rfl (XL.no rfl rfl XL.qd) ?_
      refine JP.qq rfl rfl rfl (XL.no rfl rfl XL.qd) ?_
      refine JP.qq rfl rfl rfl (XL.no rfl rfl XL.qd) ?_
      refine JP.qq rfl rfl rfl (XL.no rfl rfl XL.qd) ?_
      refine JP.qq rfl rfl rfl (XL.no rfl rfl XL.qd) ?_
      refine JP.qq rfl rfl rfl (XL.no rfl rfl XL.qd) ?_
      refine JP.qq rfl rfl rfl (XL.no rfl rfl XL.qd) ?_
      refine JP.qq rfl rfl rfl (XL.no rfl rfl XL.qd) ?_
      refine JP.qq rfl rfl rfl (XL.pkT rfl rfl rfl XL.qd) ?_
      refine JP.done ?_
      refine XQ.thenN ?_
      refine XC.condT rfl ?_
      refine XC.exit ?_
      refine XQ.thenE ?_
      refine XQ.blkX rfl ?_
      refine XQ.thenE ?_
      refine XQ.blkE ?_
      refine XQ.thenN ?_
      refine XC.seq ?_
      refine XC.reg ?_
      refine XL.mv rfl rfl ?_
      refine XL.as rfl rfl ?_
      refine XL.as rfl rfl ?_
      refine XL.nil ?_
      refine XQ.thenN ?_
      refine XC.ret ?_
      exact XQ.ret (.inl rfl) rfl (rC (resT rfl) <| rC (resT rfl) <| rN) [logB b z.2.1 v bd pl, diskC bd D, (z.2.1).sl v, recS z.2.2.2 z.2.2.1] (⟨z.2.2.2, rfl, by rw [hz.stop (fun p bb hr => absurd (recD_none (now := D.now) (base := 2 + 16 * z.2.1.lst.1 + z.2.1.lst.2) (room := 16 - z.2.1.lst.2) (by omega)) (by rw [hr]; simp))]⟩) (fun w h => by first | exact h | exact Sat.tail h)
    · obtain ⟨p, bb, hr, hrd⟩ := recD_some (now := D.now) (base := 2 + 16 * z.2.1.lst.1 + z.2.1.lst.2) (room := 16 - z.2.1.lst.2) (by omega)
      have hro := recOf_of hr
      refine JP.qq rfl rfl rfl (XL.mv rfl rfl XL.qd) ?_
      refine JP.qq rfl rfl rfl (XL.mv rfl rfl XL.qd) ?_
      refine JP.qq rfl rfl rfl (XL.ncP rfl rfl XL.qd) ?_
      refine JP.qq rfl rfl rfl (XL.fa fo_seglog_Log_0 rfl rfl XL.qd) ?_
      refine JP.qq rfl rfl rfl (XL.fa fo_seglog_checkpoint_1 rfl rfl XL.qd) ?_
      refine JP.qq rfl rfl rfl (XL.ld o_int rfl (by rfl) rfl XL.qd) ?_
      refine JP.qq rfl rfl rfl (XL.bin rfl rfl rfl (bNeI) XL.qd) ?_
      refine JP.qq rfl rfl rfl (XL.pkF rfl rfl rfl XL.qd) ?_
      refine JP.qq rfl rfl rfl (XL.mv rfl rfl XL.qd) ?_
      refine JP.split 51 rfl (fun hg51 => ?_) (fun hg51 => ?_)
      · refine JP.qq rfl rfl rfl (XL.no rfl rfl XL.qd) ?_
        refine JP.qq rfl rfl rfl (XL.no rfl rfl XL.qd) ?_
        refine JP.qq rfl rfl rfl (XL.no rfl rfl XL.qd) ?_
        refine JP.qq rfl rfl rfl (XL.no rfl rfl XL.qd) ?_
        refine JP.qq rfl rfl rfl (XL.no rfl rfl XL.qd) ?_
        refine JP.qq rfl rfl rfl (XL.no rfl rfl XL.qd) ?_
        refine JP.qq rfl rfl rfl (XL.no rfl rfl XL.qd) ?_
        refine JP.qq rfl rfl rfl (XL.no rfl rfl XL.qd) ?_
        refine JP.qq rfl rfl rfl (XL.pkT rfl rfl rfl XL.qd) ?_
        refine JP.done ?_
        refine XQ.thenN ?_
        refine XC.condT rfl ?_
        refine XC.exit ?_
        refine XQ.thenE ?_
        refine XQ.blkX rfl ?_
        refine XQ.thenE ?_
        refine XQ.blkE ?_
        refine XQ.thenN ?_
        refine XC.seq ?_
        refine XC.reg ?_
        refine XL.mv rfl rfl ?_
        refine XL.as rfl rfl ?_
        refine XL.as rfl rfl ?_
        refine XL.nil ?_
        refine XQ.thenN ?_
        refine XC.ret ?_
        exact XQ.ret (.inl rfl) rfl (rC (resT rfl) <| rC (resT rfl) <| rN) [logB b z.2.1 v bd pl, diskC bd D, (z.2.1).sl v, recS z.2.2.2 z.2.2.1] (⟨z.2.2.2, rfl, by rw [hz.stop (fun p2 bb2 hr2 => by rw [hr] at hr2; cases hr2; rw [hrd] at hg51; dsimp only at hg51; omega)]⟩) (fun w h => by first | exact h | exact Sat.tail h)
      · refine JP.qq rfl rfl rfl (XL.fa fo_seglog_Record_0 rfl rfl XL.qd) ?_
        refine JP.qq rfl rfl rfl (XL.ld o_int rfl (by rfl) rfl XL.qd) ?_
        refine JP.qq rfl rfl rfl (XL.mv rfl rfl XL.qd) ?_
        refine JP.qq rfl rfl rfl (XL.ncP rfl rfl XL.qd) ?_
        refine JP.qq rfl rfl rfl (XL.fa fo_seglog_Log_0 rfl rfl XL.qd) ?_
        refine JP.qq rfl rfl rfl (XL.fa fo_seglog_checkpoint_2 rfl rfl XL.qd) ?_
        refine JP.qq rfl rfl rfl (XL.ld o_int rfl (by rfl) rfl XL.qd) ?_
        refine JP.qq rfl rfl rfl (XL.bin rfl rfl rfl (bNeI) XL.qd) ?_
        refine JP.qq rfl rfl rfl (XL.pkF rfl rfl rfl XL.qd) ?_
        refine JP.done ?_
        refine XQ.thenN ?_
        refine XC.cond rfl (fun hc2 => ?_) (fun hc2 => ?_)
        · refine XC.exit ?_
          refine XQ.thenE ?_
          refine XQ.blkX rfl ?_
          refine XQ.thenE ?_
          refine XQ.blkE ?_
          refine XQ.thenN ?_
          refine XC.seq ?_
          refine XC.reg ?_
          refine XL.mv rfl rfl ?_
          refine XL.as rfl rfl ?_
          refine XL.as rfl rfl ?_
          refine XL.nil ?_
          refine XQ.thenN ?_
          refine XC.ret ?_
          exact XQ.ret (.inl rfl) rfl (rC (resT rfl) <| rC (resT rfl) <| rN) [logB b z.2.1 v bd pl, diskC bd D, (z.2.1).sl v, recS z.2.2.2 z.2.2.1] (⟨z.2.2.2, rfl, by rw [hz.stop (fun p2 bb2 hr2 => by rw [hr] at hr2; cases hr2; rw [hrd] at hc2; dsimp only at hc2; omega)]⟩) (fun w h => by first | exact h | exact Sat.tail h)
        · refine XC.skip ?_
          refine XQ.thenN ?_
          refine XC.seq ?_
          refine XC.re 8 (u := .int .i64 (p.of : Int)) rfl (by rw [hrd]) ?_
          refine XC.reg ?_
          refine XL.mv rfl rfl ?_
          refine XL.ldM g_seglog_Record rfl (by rfl) rfl ?_
          refine XL.bs (enc := encR) [⟨(recD (recOf D.now (2 + 16 * z.2.1.lst.1 + z.2.1.lst.2) (16 - z.2.1.lst.2))).1.seq, if (recOf D.now (2 + 16 * z.2.1.lst.1 + z.2.1.lst.2) (16 - z.2.1.lst.2)).isSome then z.2.1.lst.1 else 0, (recD (recOf D.now (2 + 16 * z.2.1.lst.1 + z.2.1.lst.2) (16 - z.2.1.lst.2))).2⟩] e_L_seglog_Record z_seglog_Record rfl rfl rfl (by intro x hx; rfl) rfl (fun v63 _ => ?_)
          refine XL.app [⟨(recD (recOf D.now (2 + 16 * z.2.1.lst.1 + z.2.1.lst.2) (16 - z.2.1.lst.2))).1.seq, if (recOf D.now (2 + 16 * z.2.1.lst.1 + z.2.1.lst.2) (16 - z.2.1.lst.2)).isSome then z.2.1.lst.1 else 0, (recD (recOf D.now (2 + 16 * z.2.1.lst.1 + z.2.1.lst.2) (16 - z.2.1.lst.2))).2⟩] e_L_seglog_Record e_L_seglog_Record z_seglog_Record rfl rfl rfl rfl (fun x _ => encR_one x) (by first | omega | (simp [numB_length] <;> omega)) rfl (fun v64 _ => ?_)
          refine XL.as rfl rfl ?_
          refine XL.nil ?_
          refine XQ.thenN ?_
          refine XC.seq ?_
          refine XC.reg ?_
          refine XL.mv rfl rfl ?_
          refine XL.ncP rfl rfl ?_
          refine XL.fa fo_seglog_Segment_1 rfl rfl ?_
          refine XL.ldSf (o := 1) o_int rfl hj (by rw [hla]; rfl) rfl ?_
          refine XL.mv rfl rfl ?_
          refine XL.bin rfl rfl rfl (bAdd (by omega)) ?_
          refine XL.ncP rfl rfl ?_
          refine XL.fa fo_seglog_Segment_1 rfl rfl ?_
          refine XL.stSf (z.2.1.lst.1, z.2.1.lst.2 + p.of) o_int rfl rfl hj (by decide) (by rw [hla]; rfl) rfl ?_
          refine XL.nil ?_
          refine XQ.thenN ?_
          refine XC.reg ?_
          refine XL.mv rfl rfl ?_
          refine XL.ncP rfl rfl ?_
          refine XL.fa fo_seglog_Log_0 rfl rfl ?_
          refine XL.fa fo_seglog_checkpoint_2 rfl rfl ?_
          refine XL.ld o_int rfl (by rfl) rfl ?_
          refine XL.bin rfl rfl rfl (bAdd (by omega)) ?_
          refine XL.ncP rfl rfl ?_
          refine XL.fa fo_seglog_Log_0 rfl rfl ?_
          refine XL.fa fo_seglog_checkpoint_2 rfl rfl ?_
          refine XL.st o_int rfl rfl rfl ?_
          refine XL.nil ?_
          refine XQ.blkN ?_
          refine XQ.again (z.1 + 1, z.2.1.more p.of, z.2.2.1 ++ [⟨p.seq, z.2.1.lst.1, bb⟩], v64) (hz.step h0 (by omega) hr (by rw [hrd] at hg51 hc2; dsimp only at hg51 hc2; omega)) (by have := hz.k; have := hz.u; dsimp only; omega) ⟨rfl, rfl, rfl, trivial⟩ (fun w h => by rw [hrd, hr] at h; have h3 := Take.sat (t3.c <| t3.c <| t3.c <| t0.c <| t2.c tn) h; rw [← hz.m] at h3; exact h3)
  · refine XC.exit ?_
    refine XQ.thenE ?_
    refine XQ.thenE ?_
    refine XQ.blkE ?_
    refine XQ.thenN ?_
    refine XC.seq ?_
    refine XC.reg ?_
    refine XL.mv rfl rfl ?_
    refine XL.as rfl rfl ?_
    refine XL.as rfl rfl ?_
    refine XL.nil ?_
    refine XQ.thenN ?_
    refine XC.ret ?_
    exact XQ.ret (.inl rfl) rfl (rC (resT rfl) <| rC (resT rfl) <| rN) [logB b z.2.1 v bd pl, diskC bd D, (z.2.1).sl v, recS z.2.2.2 z.2.2.1] (⟨z.2.2.2, rfl, by rw [hz.full (by omega)]⟩) (fun w h => by first | exact h | exact Sat.tail h)
end Go.Proofs.YthlfbndanknnmaaDoor
