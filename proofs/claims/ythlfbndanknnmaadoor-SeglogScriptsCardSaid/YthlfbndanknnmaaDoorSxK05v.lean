/-
  The document's Drop; the statements' own functions. Printed by mk.py out of spec_k05v.py.
-/
import Derived.Test.YthlfbndanknnmaaDoorSxK05u
namespace Go.Proofs.YthlfbndanknnmaaDoor
open Go Go.Sx

/-- The document's Drop. -/
def refDrop (W : RefL) (n : Int) : Nat → Int × RefL
  | 0 => (1, W)
  | k + 1 => if ((W.ids.getD (W.ids.length - 1 - (k + 1)) 0 : Nat) : Int) = n then (0, { W with ids := W.ids.eraseIdx (W.ids.length - 1 - (k + 1)), used := W.used.eraseIdx (W.ids.length - 1 - (k + 1)) }) else refDrop W n k
theorem erase_win {l : List Nat} {i : Nat} (h : i + 1 < l.length) : ([] ++ (l.drop 0).take i) ++ (l.drop (i + 1)).take (l.length - (i + 1)) = l.eraseIdx i := by
  have e : (l.drop (i + 1)).take (l.length - (i + 1)) = l.drop (i + 1) := List.take_of_length_le (by simp)
  rw [e, List.eraseIdx_eq_take_drop_succ, List.nil_append, List.drop_zero]

theorem coracleref05_Drop_fn (b : Nat) (W : RefL) (n : Int) (hW : RefOk W) : Does P F_coracleref05_Drop [.pointer (some ⟨b, 0, none⟩), .int .i64 n] [refC b W] fun v cs => v = .int .i64 (refDrop W n (W.ids.length - 1)).1 ∧ cs = [refC b (refDrop W n (W.ids.length - 1)).2] := by
  refine Does.mk (N := 67) fn_coracleref05_Drop rfl rfl rfl (fun F => ?_)
  simp only [List.cons_append, List.nil_append]
  refine XC.opn t0 ?_
  rintro ⟨vi, vu⟩
  dsimp only [List.cons_append, List.nil_append]
  refine XC.oneV vi (fun _ => ?_)
  refine XC.oneV vu (fun _ => ?_)
  have hn := hW.n
  have h0 := hW.n0
  have h64 := hW.n64
  refine XC.seq ?_
  refine XC.reg ?_
  refine XL.as rfl rfl ?_
  refine XL.nil ?_
  refine XQ.thenN ?_
  refine XC.seq ?_
  refine XC.seq ?_
  refine XC.reg ?_
  refine XL.as rfl rfl ?_
  refine XL.nil ?_
  refine XQ.thenN ?_
  refine XC.block ?_
  refine XC.loop (ι := Nat) (fun i => [(0, .pointer (some ⟨b, 0, none⟩)), (1, .int .i64 n), (5, .int .i64 (i : Int))]) (fun i => [blk b [.int .i64 (W.segs : Int), vi, vu, .int .i64 (W.seq : Int), .int .i64 (W.boot : Int), .int .i64 (W.serial : Int)] T_coracleref05_Log, sl vi encN W.ids T_int 1, sl vu encN W.used T_int 1, F]) (fun i => i ≤ W.ids.length - 1 ∧ refDrop W n (W.ids.length - 1) = refDrop W n (W.ids.length - 1 - i)) (fun i => W.ids.length - i) 0 ⟨Nat.zero_le _, rfl⟩ ⟨rfl, rfl, rfl, trivial⟩ (fun w h => h) (fun i hi => ?_)
  refine XC.seq ?_
  refine XC.seq ?_
  refine XC.reg ?_
  refine XL.mv rfl rfl ?_
  refine XL.mv rfl rfl ?_
  refine XL.ncP rfl rfl ?_
  refine XL.fa fo_coracleref05_Log_1 rfl rfl ?_
  refine XL.ld o_L_int rfl (by rfl) rfl ?_
  refine XL.lenS e_L_int rfl rfl ?_
  refine XL.bin rfl rfl rfl (bSub (by omega)) ?_
  refine XL.bin rfl rfl rfl (bLss) ?_
  refine XL.nil ?_
  refine XQ.thenN ?_
  refine XC.cond rfl (fun hc0 => ?_) (fun hc0 => ?_)
  · have hlt : i < W.ids.length := by omega
    have hltu : i < W.used.length := by omega
    have hk1 : W.ids.length - 1 - i = (W.ids.length - 1 - (i + 1)) + 1 := by omega
    have hk2 : W.ids.length - 1 - (W.ids.length - 1 - (i + 1) + 1) = i := by omega
    have hget := getD_at hlt
    have hstep : refDrop W n (W.ids.length - 1 - i) = if ((W.ids.getD i 0 : Nat) : Int) = n then (0, { W with ids := W.ids.eraseIdx i, used := W.used.eraseIdx i }) else refDrop W n (W.ids.length - 1 - (i + 1)) := by rw [hk1, refDrop, hk2]
    refine XC.skip ?_
    refine XQ.thenN ?_
    refine XC.seq ?_
    refine XC.block ?_
    refine XC.seq ?_
    refine XC.reg ?_
    refine XL.mv rfl rfl ?_
    refine XL.ncP rfl rfl ?_
    refine XL.fa fo_coracleref05_Log_1 rfl rfl ?_
    refine XL.ld o_L_int rfl (by rfl) rfl ?_
    refine XL.mv rfl rfl ?_
    refine XL.ixS i e_L_int rfl rfl rfl hlt rfl (fun b23 _ => ?_)
    refine XL.ldS1 o_int rfl hlt rfl rfl ?_
    refine XL.mv rfl rfl ?_
    refine XL.bin rfl rfl rfl (bEqI) ?_
    refine XL.nil ?_
    refine XQ.thenN ?_
    refine XC.cond rfl (fun hc1 => ?_) (fun hc1 => ?_)
    · refine XC.seq ?_
      refine XC.reg ?_
      refine XL.as rfl rfl ?_
      refine XL.as rfl rfl ?_
      refine XL.nil ?_
      refine XQ.thenN ?_
      refine XC.seq ?_
      refine XC.to (fun w h => sl_nil (enc := encN) (e := T_int) (sz := 1) (sl_nil (enc := encN) (e := T_int) (sz := 1) h)) ?_
      refine XC.reg ?_
      refine XL.mv rfl rfl ?_
      refine XL.mv rfl rfl ?_
      refine XL.ncP rfl rfl ?_
      refine XL.fa fo_coracleref05_Log_1 rfl rfl ?_
      refine XL.ld o_L_int rfl (by rfl) rfl ?_
      refine XL.mv rfl rfl ?_
      refine XL.slV 0 i e_L_int rfl rfl ⟨_, rfl⟩ (by omega) (by omega) rfl rfl (fun w33 _ hw33 => ?_)
      refine XL.appX e_L_int e_L_int z_int rfl rfl rfl hw33 (by omega) (fun x _ => encN_one x) (by simp <;> omega) rfl (fun v34 _ => ?_)
      refine XL.as rfl rfl ?_
      refine XL.nil ?_
      refine XQ.thenN ?_
      refine XC.seq ?_
      refine XC.reg ?_
      refine XL.mv rfl rfl ?_
      refine XL.mv rfl rfl ?_
      refine XL.ncP rfl rfl ?_
      refine XL.fa fo_coracleref05_Log_2 rfl rfl ?_
      refine XL.ld o_L_int rfl (by rfl) rfl ?_
      refine XL.mv rfl rfl ?_
      refine XL.slV 0 i e_L_int rfl rfl ⟨_, rfl⟩ (by omega) (by omega) rfl rfl (fun w41 _ hw41 => ?_)
      refine XL.appX e_L_int e_L_int z_int rfl rfl rfl hw41 (by omega) (fun x _ => encN_one x) (by simp <;> omega) rfl (fun v42 _ => ?_)
      refine XL.as rfl rfl ?_
      refine XL.nil ?_
      refine XQ.thenN ?_
      refine XC.seq ?_
      refine XC.reg ?_
      refine XL.mv rfl rfl ?_
      refine XL.mv rfl rfl ?_
      refine XL.mv rfl rfl ?_
      refine XL.ncP rfl rfl ?_
      refine XL.fa fo_coracleref05_Log_1 rfl rfl ?_
      refine XL.ld o_L_int rfl (by rfl) rfl ?_
      refine XL.mv rfl rfl ?_
      refine XL.bin rfl rfl rfl (bAdd (by omega)) ?_
      refine XL.re 50 (u := .int .i64 ((i + 1 : Nat) : Int)) rfl (congrArg (Value.int .i64) (by omega)) ?_
      refine XL.slV (i + 1) W.ids.length e_L_int rfl ⟨_, rfl⟩ rfl (by omega) (by omega) rfl rfl (fun w51 _ hw51 => ?_)
      refine XL.appX e_L_int e_L_int z_int rfl rfl rfl hw51 (by omega) (fun x _ => encN_one x) (by simp <;> omega) rfl (fun v52 _ => ?_)
      refine XL.ncP rfl rfl ?_
      refine XL.fa fo_coracleref05_Log_1 rfl rfl ?_
      refine XL.st o_L_int rfl rfl rfl ?_
      refine XL.nil ?_
      refine XQ.thenN ?_
      refine XC.seq ?_
      refine XC.reg ?_
      refine XL.mv rfl rfl ?_
      refine XL.mv rfl rfl ?_
      refine XL.mv rfl rfl ?_
      refine XL.ncP rfl rfl ?_
      refine XL.fa fo_coracleref05_Log_2 rfl rfl ?_
      refine XL.ld o_L_int rfl (by rfl) rfl ?_
      refine XL.mv rfl rfl ?_
      refine XL.bin rfl rfl rfl (bAdd (by omega)) ?_
      refine XL.re 62 (u := .int .i64 ((i + 1 : Nat) : Int)) rfl (congrArg (Value.int .i64) (by omega)) ?_
      refine XL.slV (i + 1) W.used.length e_L_int rfl ⟨_, rfl⟩ rfl (by omega) (by omega) rfl rfl (fun w63 _ hw63 => ?_)
      refine XL.appX e_L_int e_L_int z_int rfl rfl rfl hw63 (by omega) (fun x _ => encN_one x) (by simp <;> omega) rfl (fun v64 _ => ?_)
      refine XL.ncP rfl rfl ?_
      refine XL.fa fo_coracleref05_Log_2 rfl rfl ?_
      refine XL.st o_L_int rfl rfl rfl ?_
      refine XL.nil ?_
      refine XQ.thenN ?_
      refine XC.seq ?_
      refine XC.reg ?_
      refine XL.as rfl rfl ?_
      refine XL.nil ?_
      refine XQ.thenN ?_
      refine XC.ret ?_
      refine XQ.blkR ?_
      refine XQ.thenR ?_
      refine XQ.thenR ?_
      refine XQ.blkR ?_
      refine XQ.thenR ?_
      exact XQ.ret (.inl rfl) rfl (rC (resT rfl) <| rN) [refC b { W with ids := W.ids.eraseIdx i, used := W.used.eraseIdx i }] (⟨by rw [hi.2, hstep, if_pos (by rw [hget]; exact hc1)]; rfl, by rw [hi.2, hstep, if_pos (by rw [hget]; exact hc1)]⟩) (fun w h => by have h3 := Take.sat (t2.c <| t1.c <| t0.c <| t2.c tn) h; rw [Nat.sub_zero, erase_win (l := W.ids) (by omega), erase_win (l := W.used) (by omega)] at h3; exact Sat.shut ⟨v52, v64⟩ h3)
    · refine XC.skip ?_
      refine XQ.blkN ?_
      refine XQ.thenN ?_
      refine XC.reg ?_
      refine XL.mv rfl rfl ?_
      refine XL.bin rfl rfl rfl (bAdd (by omega)) ?_
      refine XL.as rfl rfl ?_
      refine XL.nil ?_
      exact XQ.again (i + 1) ⟨by omega, by rw [hi.2, hstep, if_neg (by rw [hget]; exact hc1)]⟩ (by omega) ⟨rfl, rfl, rfl, trivial⟩ (fun w h => h)
  · obtain rfl : i = W.ids.length - 1 := by omega
    refine XC.exit ?_
    refine XQ.thenE ?_
    refine XQ.thenE ?_
    refine XQ.blkE ?_
    refine XQ.thenN ?_
    refine XC.seq ?_
    refine XC.reg ?_
    refine XL.as rfl rfl ?_
    refine XL.nil ?_
    refine XQ.thenN ?_
    refine XC.ret ?_
    exact XQ.ret (.inl rfl) rfl (rC (resT rfl) <| rN) [refC b W] (⟨by rw [hi.2, Nat.sub_self]; rfl, by rw [hi.2, Nat.sub_self]; rfl⟩) (fun w h => Sat.shut ⟨vi, vu⟩ h)

instance : DecidableEq RecS := fun a b => decidable_of_iff (a.seq = b.seq ∧ a.seg = b.seg ∧ a.body = b.body) ⟨fun ⟨h1, h2, h3⟩ => by cases a; cases b; simp_all, fun h => by subst h; exact ⟨rfl, rfl, rfl⟩⟩
theorem encR_inj {x y : RecS} : (decide ((x.seq : Int) = (y.seq : Int)) && (decide ((x.seg : Int) = (y.seg : Int)) && (decide (x.body = y.body) && true))) = decide (x = y) := by
  rw [Bool.eq_iff_iff]
  simp only [Bool.and_eq_true, decide_eq_true_eq, and_true]
  constructor
  · rintro ⟨h1, h2, h3⟩
    obtain ⟨a, b, c⟩ := x
    obtain ⟨a', b', c'⟩ := y
    simp only at h1 h2 h3
    rw [show a = a' by omega, show b = b' by omega, h3]
  · rintro rfl; exact ⟨rfl, rfl, rfl⟩

theorem coraclelaw05_records_fn (v1 v2 : Value) (l : List RecS) (hl : l.length ≤ 1000000) : Does P F_coraclelaw05_records [v1, v2] [sl v1 encR l T_seglog_Record 3, sl v2 encR l T_coracleref05_Record 3] fun v cs => v = .bool true ∧ cs = [sl v1 encR l T_seglog_Record 3, sl v2 encR l T_coracleref05_Record 3] := by
  refine Does.mk (N := 26) fn_coraclelaw05_records rfl rfl rfl (fun F => ?_)
  simp only [List.cons_append, List.nil_append]
  refine XC.seq ?_
  refine XC.reg ?_
  refine XL.as rfl rfl ?_
  refine XL.nil ?_
  refine XQ.thenN ?_
  refine XC.seq ?_
  refine XC.seq ?_
  refine XC.reg ?_
  refine XL.mv rfl rfl ?_
  refine XL.lenS e_L_seglog_Record rfl rfl ?_
  refine XL.mv rfl rfl ?_
  refine XL.lenS e_L_coracleref05_Record rfl rfl ?_
  refine XL.bin rfl rfl rfl (bNeI) ?_
  refine XL.nil ?_
  refine XQ.thenN ?_
  refine XC.condF' rfl (decide_eq_false (by omega)) ?_
  refine XC.skip ?_
  refine XQ.thenN ?_
  refine XC.seq ?_
  refine XC.seq ?_
  refine XC.reg ?_
  refine XL.as rfl rfl ?_
  refine XL.nil ?_
  refine XQ.thenN ?_
  refine XC.block ?_
  refine XC.loop (ι := Nat) (fun i => [(0, v1), (1, v2), (5, .int .i64 (i : Int))]) (fun i => [sl v1 encR l T_seglog_Record 3, sl v2 encR l T_coracleref05_Record 3, F]) (fun i => i ≤ l.length) (fun i => l.length - i) 0 (Nat.zero_le _) ⟨rfl, rfl, rfl, trivial⟩ (fun w h => h) (fun i hi => ?_)
  refine XC.seq ?_
  refine XC.seq ?_
  refine XC.reg ?_
  refine XL.mv rfl rfl ?_
  refine XL.mv rfl rfl ?_
  refine XL.lenS e_L_seglog_Record rfl rfl ?_
  refine XL.bin rfl rfl rfl (bLss) ?_
  refine XL.nil ?_
  refine XQ.thenN ?_
  refine XC.cond rfl (fun hc1 => ?_) (fun hc1 => ?_)
  · have hlt : i < l.length := by omega
    refine XC.isAt v1 i hlt (fun b1 _ => ?_)
    refine XC.isAt v2 i hlt (fun b2 _ => ?_)
    refine XC.skip ?_
    refine XQ.thenN ?_
    refine XC.seq ?_
    refine XC.block ?_
    refine XC.seq ?_
    refine XC.drw (.q 0 <| .q 1 <| .q 2 <| .q 3 <| .q 4 <| .q 5 <| .q 6 <| .q 7 <| .q 8 <| .done) mixed (by kernel_rfl) rfl ?_
    refine JP.qq rfl rfl rfl (XL.mv rfl rfl XL.qd) ?_
    refine JP.qq rfl rfl rfl (XL.mv rfl rfl XL.qd) ?_
    refine JP.qq rfl rfl rfl (XL.ixB i e_L_seglog_Record rfl rfl rfl hlt rfl XL.qd) ?_
    refine JP.qq rfl rfl rfl (XL.ldSN g_seglog_Record rfl hlt rfl XL.qd) ?_
    refine JP.qq rfl rfl rfl (XL.mv rfl rfl XL.qd) ?_
    refine JP.qq rfl rfl rfl (XL.mv rfl rfl XL.qd) ?_
    refine JP.qq rfl rfl rfl (XL.ixB i e_L_coracleref05_Record rfl rfl rfl hlt rfl XL.qd) ?_
    refine JP.qq rfl rfl rfl (XL.ldSN g_coracleref05_Record rfl hlt rfl XL.qd) ?_
    refine JP.qq rfl rfl rfl (XL.bin rfl rfl rfl (bNeSt eqs_coracleref05_Record) XL.qd) ?_
    refine JP.done ?_
    refine XQ.thenN ?_
    refine XC.condF' rfl (by rw [encR_inj]; simp) ?_
    refine XC.skip ?_
    refine XQ.blkN ?_
    refine XQ.thenN ?_
    refine XC.reg ?_
    refine XL.mv rfl rfl ?_
    refine XL.bin rfl rfl rfl (bAdd (by omega)) ?_
    refine XL.as rfl rfl ?_
    refine XL.nil ?_
    exact XQ.again (i + 1) (by omega) (by omega) ⟨rfl, rfl, rfl, trivial⟩ (fun w h => h)
  · refine XC.exit ?_
    refine XQ.thenE ?_
    refine XQ.thenE ?_
    refine XQ.blkE ?_
    refine XQ.thenN ?_
    refine XC.seq ?_
    refine XC.reg ?_
    refine XL.as rfl rfl ?_
    refine XL.nil ?_
    refine XQ.thenN ?_
    refine XC.ret ?_
    exact XQ.ret (.inl rfl) rfl (rC (resT rfl) <| rN) [sl v1 encR l T_seglog_Record 3, sl v2 encR l T_coracleref05_Record 3] (⟨rfl, rfl⟩) (fun w h => h)

def diskN (n : Int) : Nat := (66 + (n.tmod 50 + 50).tmod 50).toNat
theorem diskN_eq (n : Int) : 66 + (n.tmod 50 + 50).tmod 50 = (diskN n : Int) ∧ 66 ≤ diskN n ∧ diskN n ≤ 115 := by
  have h1 : -50 < n.tmod 50 ∧ n.tmod 50 < 50 := ⟨by have := Int.lt_tmod_of_pos n (show (0:Int) < 50 by decide); omega, Int.tmod_lt_of_pos n (by decide)⟩
  have h2 : 0 ≤ (n.tmod 50 + 50).tmod 50 ∧ (n.tmod 50 + 50).tmod 50 < 50 := ⟨Int.tmod_nonneg _ (by omega), Int.tmod_lt_of_pos _ (by decide)⟩
  unfold diskN; omega

theorem coraclelaw05_disk_fn (n : Int) : Does P F_coraclelaw05_disk [.int .i64 n] [] fun v cs => ∃ b, v = .tuple #[.pointer (some ⟨b, 0, none⟩), .int .i64 (diskN n : Int)] ∧ cs = [diskC b (DiskS.new (diskN n))] := by
  refine Does.mk (N := 19) fn_coraclelaw05_disk rfl rfl rfl (fun F => ?_)
  simp only [List.cons_append, List.nil_append]
  obtain ⟨hd, hd1, hd2⟩ := diskN_eq n
  have h1 : -50 < n.tmod 50 ∧ n.tmod 50 < 50 := ⟨by have := Int.lt_tmod_of_pos n (show (0:Int) < 50 by decide); omega, Int.tmod_lt_of_pos n (by decide)⟩
  have h2 : 0 ≤ (n.tmod 50 + 50).tmod 50 ∧ (n.tmod 50 + 50).tmod 50 < 50 := ⟨Int.tmod_nonneg _ (by omega), Int.tmod_lt_of_pos _ (by decide)⟩
  refine XC.seq ?_
  refine XC.reg ?_
  refine XL.as rfl rfl ?_
  refine XL.as rfl rfl ?_
  refine XL.nil ?_
  refine XQ.thenN ?_
  refine XC.seq ?_
  refine XC.reg ?_
  refine XL.mv rfl rfl ?_
  refine XL.bin rfl rfl rfl (bRemT (by omega)) ?_
  refine XL.bin rfl rfl rfl (bAdd (by omega)) ?_
  refine XL.bin rfl rfl rfl (bRemT (by omega)) ?_
  refine XL.bin rfl rfl rfl (bAdd (by omega)) (XL.re 11 (u := .int .i64 (diskN n : Int)) rfl (congrArg (Value.int .i64) hd) ?_)
  refine XL.as rfl rfl ?_
  refine XL.nil ?_
  refine XQ.thenN ?_
  refine XC.seq ?_
  refine XC.reg ?_
  refine XL.mv rfl rfl ?_
  refine XL.call hb_sector_New rfl rfl (sector_New_fn (diskN n) (by omega) (by omega)) tn ?_
  rintro _ _ ⟨b, rfl, rfl⟩
  simp only [List.cons_append, List.nil_append]
  refine XL.mv rfl rfl ?_
  refine XL.ex rfl rfl rfl ?_
  refine XL.ex rfl rfl rfl ?_
  refine XL.as rfl rfl ?_
  refine XL.as rfl rfl ?_
  refine XL.nil ?_
  refine XQ.thenN ?_
  refine XC.seq ?_
  refine XC.reg ?_
  refine XL.mv rfl rfl ?_
  refine XL.mv rfl rfl ?_
  refine XL.as rfl rfl ?_
  refine XL.as rfl rfl ?_
  refine XL.nil ?_
  refine XQ.thenN ?_
  refine XC.ret ?_
  exact XQ.ret (.inl rfl) rfl (rC (resT rfl) <| rC (resT rfl) <| rN) [diskC b (DiskS.new (diskN n))] (⟨b, rfl, rfl⟩) (fun w h => h)

def bodyGo (t : List UInt8) : Nat → List UInt8 → List UInt8
  | 0, s => s
  | k + 1, s => if 5000 < (s ++ t).length then s ++ t else bodyGo t k (s ++ t)
/-- The text of a step. -/
def bodyM (n : Int) (t : List UInt8) : List UInt8 := bodyGo t (n.tmod 9 + 1).toNat []
theorem bodyGo_len (t : List UInt8) : ∀ (k : Nat) (s : List UInt8), s.length ≤ 5000 → (bodyGo t k s).length ≤ 5000 + t.length
  | 0, s, h => by rw [bodyGo]; omega
  | k + 1, s, h => by
    rw [bodyGo]
    split
    · simp; omega
    · exact bodyGo_len t k _ (by omega)
theorem bodyM_len (n : Int) (t : List UInt8) : (bodyM n t).length ≤ 5000 + t.length := bodyGo_len t _ _ (by simp)

theorem coraclelaw05_body_fn (a n : Int) (t : List UInt8) (ht : t.length ≤ 140737488351232) : Does P F_coraclelaw05_body [.agg #[.int .i64 a, .int .i64 n, S t]] [] fun v cs => v = S (bodyM n t) ∧ cs = [] := by
  refine Does.mk (N := 22) fn_coraclelaw05_body rfl rfl rfl (fun F => ?_)
  simp only [List.cons_append, List.nil_append]
  have h1 : -9 < n.tmod 9 ∧ n.tmod 9 < 9 := ⟨by have := Int.lt_tmod_of_pos n (show (0:Int) < 9 by decide); omega, Int.tmod_lt_of_pos n (by decide)⟩
  refine XC.seq ?_
  refine XC.reg ?_
  refine XL.bx rfl rfl rfl (fun b1 => ?_)
  refine XL.as rfl rfl ?_
  refine XL.nil ?_
  refine XQ.thenN ?_
  refine XC.seq ?_
  refine XC.reg ?_
  refine XL.as rfl rfl ?_
  refine XL.nil ?_
  refine XQ.thenN ?_
  refine XC.seq ?_
  refine XC.reg ?_
  refine XL.fa fo_coraclelaw05_Act_1 rfl rfl ?_
  refine XL.ld o_int rfl (by rfl) rfl ?_
  refine XL.bin rfl rfl rfl (bRemT (by omega)) ?_
  refine XL.as rfl rfl ?_
  refine XL.nil ?_
  refine XQ.thenN ?_
  refine XC.seq ?_
  refine XC.seq ?_
  refine XC.reg ?_
  refine XL.as rfl rfl ?_
  refine XL.nil ?_
  refine XQ.thenN ?_
  refine XC.block ?_
  refine XC.loop (ι := Nat × List UInt8) (fun z => [(1, .pointer (some ⟨b1, 0, none⟩)), (3, S z.2), (4, .int .i64 (n.tmod 9)), (5, .int .i64 (z.1 : Int))]) (fun z => [blk b1 [.int .i64 a, .int .i64 n, S t] T_coraclelaw05_Act, F])
    (fun z => z.1 ≤ (n.tmod 9 + 1).toNat ∧ z.2.length ≤ 5000 ∧ bodyM n t = bodyGo t ((n.tmod 9 + 1).toNat - z.1) z.2) (fun z => 10 - z.1) (0, []) ⟨Nat.zero_le _, by simp, rfl⟩ ⟨rfl, rfl, rfl, rfl, trivial⟩ (fun w h => h) (fun z hz => ?_)
  refine XC.seq ?_
  refine XC.seq ?_
  refine XC.reg ?_
  refine XL.mv rfl rfl ?_
  refine XL.mv rfl rfl ?_
  refine XL.bin rfl rfl rfl (bLeq) ?_
  refine XL.nil ?_
  refine XQ.thenN ?_
  refine XC.cond rfl (fun hc0 => ?_) (fun hc0 => ?_)
  · have hz2 := hz.2.1
    have hk : (n.tmod 9 + 1).toNat - z.1 = ((n.tmod 9 + 1).toNat - (z.1 + 1)) + 1 := by omega
    refine XC.skip ?_
    refine XQ.thenN ?_
    refine XC.seq ?_
    refine XC.block ?_
    refine XC.seq ?_
    refine XC.reg ?_
    refine XL.mv rfl rfl ?_
    refine XL.fa fo_coraclelaw05_Act_2 rfl rfl ?_
    refine XL.ld o_string rfl (by rfl) rfl ?_
    refine XL.bin rfl rfl rfl (bAddS (by first | omega | (simp [numB_length] <;> omega))) ?_
    refine XL.as rfl rfl ?_
    refine XL.nil ?_
    refine XQ.thenN ?_
    refine XC.seq ?_
    refine XC.reg ?_
    refine XL.mv rfl rfl ?_
    refine XL.lenT u_string rfl rfl ?_
    refine XL.bin rfl rfl rfl (bGtr) ?_
    refine XL.nil ?_
    refine XQ.thenN ?_
    refine XC.cond rfl (fun hc1 => ?_) (fun hc1 => ?_)
    · refine XC.exit ?_
      refine XQ.blkX rfl ?_
      refine XQ.thenE ?_
      refine XQ.thenE ?_
      refine XQ.blkE ?_
      refine XQ.thenN ?_
      refine XC.seq ?_
      refine XC.reg ?_
      refine XL.mv rfl rfl ?_
      refine XL.as rfl rfl ?_
      refine XL.nil ?_
      refine XQ.thenN ?_
      refine XC.ret ?_
      exact XQ.ret (.inl rfl) rfl (rC (resT rfl) <| rN) [] (⟨by rw [hz.2.2, hk, bodyGo, if_pos (by omega)]; rfl, rfl⟩) (fun w h => Sat.tail h)
    · refine XC.skip ?_
      refine XQ.blkN ?_
      refine XQ.thenN ?_
      refine XC.reg ?_
      refine XL.mv rfl rfl ?_
      refine XL.bin rfl rfl rfl (bAdd (by omega)) ?_
      refine XL.as rfl rfl ?_
      refine XL.nil ?_
      exact XQ.again (z.1 + 1, z.2 ++ t) ⟨by dsimp only; omega, by dsimp only; omega, by dsimp only; rw [hz.2.2, hk, bodyGo, if_neg (by omega)]⟩ (by dsimp only; omega) ⟨rfl, rfl, rfl, rfl, trivial⟩ (fun w h => h)
  · have hz1 := hz.1
    refine XC.exit ?_
    refine XQ.thenE ?_
    refine XQ.thenE ?_
    refine XQ.blkE ?_
    refine XQ.thenN ?_
    refine XC.seq ?_
    refine XC.reg ?_
    refine XL.mv rfl rfl ?_
    refine XL.as rfl rfl ?_
    refine XL.nil ?_
    refine XQ.thenN ?_
    refine XC.ret ?_
    exact XQ.ret (.inl rfl) rfl (rC (resT rfl) <| rN) [] (⟨by rw [hz.2.2, show (n.tmod 9 + 1).toNat - z.1 = 0 by omega]; rfl, rfl⟩) (fun w h => Sat.tail h)
end Go.Proofs.YthlfbndanknnmaaDoor
