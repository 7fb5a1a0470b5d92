/-
  Package sector: what each function does to a disk. Printed by mk.py out of spec_k04.py.
-/
import Derived.Test.YthlfbndanknnmaaDoorSxKlib
namespace Go.Proofs.YthlfbndanknnmaaDoor
open Go Go.Sx

abbrev encS (s : List UInt8) : List Value := [S s]
abbrev encI (n : Int) : List Value := [.int .i64 n]
/-- A write that waits. -/
structure WriteS where
  n : Int
  data : List UInt8
abbrev encW (x : WriteS) : List Value := [.int .i64 x.n, S x.data]

/-- A disk. -/
structure DiskS where
  lasting : List (List UInt8)
  now : List (List UInt8)
  queue : List WriteS
  left : Int
  keep : Int
  off : Bool

structure DiskZ where
  vl : Value
  vn : Value
  vq : Value
  wr : Int
  fl : Int

def diskC (b : Nat) (D : DiskS) : Chunk := exi fun z : DiskZ =>
  [blk b [z.vl, z.vn, z.vq, .int .i64 D.left, .int .i64 D.keep, .bool D.off, .int .i64 z.wr, .int .i64 z.fl] T_sector_Disk, sl z.vl encS D.lasting T_string 1, sl z.vn encS D.now T_string 1, sl z.vq encW D.queue T_sector_write 2]

theorem sector_Disk_Size_fn (b : Nat) (D : DiskS) : Does P F_sector_Disk_Size [.pointer (some ⟨b, 0, none⟩)] [diskC b D] fun v cs => v = .int .i64 D.now.length ∧ cs = [diskC b D] := by
  refine Does.mk (N := 10) fn_sector_Disk_Size rfl rfl rfl (fun F => ?_)
  simp only [List.cons_append, List.nil_append]
  refine XC.opn t0 ?_
  rintro ⟨vl, vn, vq, wr, fl⟩
  dsimp only [List.cons_append, List.nil_append]
  refine XC.seq ?_
  refine XC.reg ?_
  refine XL.as rfl rfl ?_
  refine XL.nil ?_
  refine XQ.thenN ?_
  refine XC.seq ?_
  refine XC.seq ?_
  refine XC.reg ?_
  refine XL.mv rfl rfl ?_
  refine XL.bin rfl rfl rfl (bEqPF u_P_sector_Disk) ?_
  refine XL.nil ?_
  refine XQ.thenN ?_
  refine XC.condF rfl ?_
  refine XC.skip ?_
  refine XQ.thenN ?_
  refine XC.seq ?_
  refine XC.reg ?_
  refine XL.mv rfl rfl ?_
  refine XL.ncP rfl rfl ?_
  refine XL.fa fo_sector_Disk_1 rfl rfl ?_
  refine XL.ld o_L_string rfl (by rfl) rfl ?_
  refine XL.lenS e_L_string rfl rfl ?_
  refine XL.as rfl rfl ?_
  refine XL.nil ?_
  refine XQ.thenN ?_
  refine XC.ret ?_
  exact XQ.ret (.inl rfl) rfl (rC (resT rfl) <| rN) [diskC b D] (⟨rfl, rfl⟩) (fun w h => Sat.shut ⟨vl, vn, vq, _, _⟩ h)

/-- Does the power go off in this call? -/
def DiskS.torn (D : DiskS) : Bool := decide (D.left = 1)
def DiskS.tear (D : DiskS) : DiskS := if D.left = 0 then D else { D with left := D.left - 1 }

theorem sector_Disk_torn_fn (b : Nat) (D : DiskS) (h0 : 0 ≤ D.left) (h1 : D.left ≤ 9223372036854775807) : Does P F_sector_Disk_torn [.pointer (some ⟨b, 0, none⟩)] [diskC b D] fun v cs => v = .bool D.torn ∧ cs = [diskC b D.tear] := by
  refine Does.mk (N := 24) fn_sector_Disk_torn rfl rfl rfl (fun F => ?_)
  simp only [List.cons_append, List.nil_append]
  refine XC.opn t0 ?_
  rintro ⟨vl, vn, vq, wr, fl⟩
  dsimp only [List.cons_append, List.nil_append]
  refine XC.seq ?_
  refine XC.reg ?_
  refine XL.as rfl rfl ?_
  refine XL.nil ?_
  refine XQ.thenN ?_
  refine XC.seq ?_
  refine XC.seq ?_
  refine XC.reg ?_
  refine XL.mv rfl rfl ?_
  refine XL.ncP rfl rfl ?_
  refine XL.fa fo_sector_Disk_3 rfl rfl ?_
  refine XL.fa fo_struct_left_int_keep_int_0 rfl rfl ?_
  refine XL.ld o_int rfl (by rfl) rfl ?_
  refine XL.bin rfl rfl rfl (bEqI) ?_
  refine XL.nil ?_
  refine XQ.thenN ?_
  refine XC.cond rfl (fun hc0 => ?_) (fun hc0 => ?_)
  · refine XC.seq ?_
    refine XC.reg ?_
    refine XL.as rfl rfl ?_
    refine XL.nil ?_
    refine XQ.thenN ?_
    refine XC.ret ?_
    refine XQ.thenR ?_
    exact XQ.ret (.inl rfl) rfl (rC (resT rfl) <| rN) [diskC b D] (⟨by simp [tupleOf, DiskS.torn]; omega, by rw [show D.tear = D by simp [DiskS.tear, hc0]]⟩) (fun w h => Sat.shut ⟨vl, vn, vq, _, _⟩ h)
  · refine XC.skip ?_
    refine XQ.thenN ?_
    refine XC.seq ?_
    refine XC.reg ?_
    refine XL.mv rfl rfl ?_
    refine XL.ncP rfl rfl ?_
    refine XL.fa fo_sector_Disk_3 rfl rfl ?_
    refine XL.fa fo_struct_left_int_keep_int_0 rfl rfl ?_
    refine XL.ld o_int rfl (by rfl) rfl ?_
    refine XL.bin rfl rfl rfl (bSub (by omega)) ?_
    refine XL.ncP rfl rfl ?_
    refine XL.fa fo_sector_Disk_3 rfl rfl ?_
    refine XL.fa fo_struct_left_int_keep_int_0 rfl rfl ?_
    refine XL.st o_int rfl rfl rfl ?_
    refine XL.nil ?_
    refine XQ.thenN ?_
    refine XC.seq ?_
    refine XC.reg ?_
    refine XL.mv rfl rfl ?_
    refine XL.ncP rfl rfl ?_
    refine XL.fa fo_sector_Disk_3 rfl rfl ?_
    refine XL.fa fo_struct_left_int_keep_int_0 rfl rfl ?_
    refine XL.ld o_int rfl (by rfl) rfl ?_
    refine XL.bin rfl rfl rfl (bEqI) ?_
    refine XL.as rfl rfl ?_
    refine XL.nil ?_
    refine XQ.thenN ?_
    refine XC.ret ?_
    exact XQ.ret (.inl rfl) rfl (rC (resT rfl) <| rN) [diskC b { D with left := D.left - 1 }] (⟨by simp only [tupleOf, DiskS.torn]; congr 2; simp; omega, by rw [show D.tear = { D with left := D.left - 1 } by simp [DiskS.tear, hc0]]⟩) (fun w h => Sat.shut ⟨vl, vn, vq, _, _⟩ h)

theorem sector_Disk_On_fn (b : Nat) (D : DiskS) : Does P F_sector_Disk_On [.pointer (some ⟨b, 0, none⟩)] [diskC b D] fun v cs => v = .tuple #[] ∧ cs = [diskC b { D with off := false, left := 0 }] := by
  refine Does.mk (N := 11) fn_sector_Disk_On rfl rfl rfl (fun F => ?_)
  simp only [List.cons_append, List.nil_append]
  refine XC.opn t0 ?_
  rintro ⟨vl, vn, vq, wr, fl⟩
  dsimp only [List.cons_append, List.nil_append]
  refine XC.seq ?_
  refine XC.reg ?_
  refine XL.mv rfl rfl ?_
  refine XL.bin rfl rfl rfl (bNePF u_P_sector_Disk) ?_
  refine XL.nil ?_
  refine XQ.thenN ?_
  refine XC.condT rfl ?_
  refine XC.seq ?_
  refine XC.reg ?_
  refine XL.mv rfl rfl ?_
  refine XL.ncP rfl rfl ?_
  refine XL.fa fo_sector_Disk_4 rfl rfl ?_
  refine XL.st o_bool rfl rfl rfl ?_
  refine XL.nil ?_
  refine XQ.thenN ?_
  refine XC.reg ?_
  refine XL.mv rfl rfl ?_
  refine XL.ncP rfl rfl ?_
  refine XL.fa fo_sector_Disk_3 rfl rfl ?_
  refine XL.fa fo_struct_left_int_keep_int_0 rfl rfl ?_
  refine XL.st o_int rfl rfl rfl ?_
  refine XL.nil ?_
  exact XQ.ret (.inr rfl) rfl (rN) [diskC b { D with off := false, left := 0 }] (⟨rfl, rfl⟩) (fun w h => Sat.shut ⟨vl, vn, vq, _, _⟩ h)

/-- The bit of the i-th in the queue. -/
def bitOf (keep : Int) (i : Nat) : Int := IntKind.u64.wrap ((BitVec.ofInt IntKind.u64.bits ((IntKind.u64.wrap keep).fdiv (2 ^ (min ((i : Int) % 60).toNat IntKind.u64.bits))) &&& BitVec.ofInt IntKind.u64.bits 1).toNat : Int)
def DiskS.loseTo (D : DiskS) (keep : Int) : Nat → List (List UInt8)
  | 0 => D.lasting
  | i + 1 => match D.queue[i]? with
    | some x => if bitOf keep i = 1 then (D.loseTo keep i).set x.n.toNat x.data else D.loseTo keep i
    | none => D.loseTo keep i
theorem DiskS.loseTo_length (D : DiskS) (keep : Int) : ∀ i, (D.loseTo keep i).length = D.lasting.length
  | 0 => rfl
  | i + 1 => by
    unfold DiskS.loseTo
    split
    · split
      · rw [List.length_set]; exact DiskS.loseTo_length D keep i
      · exact DiskS.loseTo_length D keep i
    · exact DiskS.loseTo_length D keep i
theorem DiskS.loseTo_yes {D : DiskS} {keep : Int} {i : Nat} (h : i < D.queue.length) (hb : bitOf keep i = 1) : D.loseTo keep (i + 1) = (D.loseTo keep i).set (D.queue[i]).n.toNat (D.queue[i]).data := by
  rw [DiskS.loseTo, List.getElem?_eq_getElem h]; simp [hb]
theorem DiskS.loseTo_no {D : DiskS} {keep : Int} {i : Nat} (h : i < D.queue.length) (hb : ¬ bitOf keep i = 1) : D.loseTo keep (i + 1) = D.loseTo keep i := by
  rw [DiskS.loseTo, List.getElem?_eq_getElem h]; simp [hb]
def DiskS.lose (D : DiskS) (keep : Int) : DiskS := { D with lasting := D.loseTo keep D.queue.length, now := D.loseTo keep D.queue.length, queue := [] }
theorem encS_one (s : List UInt8) : (encS s).all oneC = true := rfl
theorem encW_one (s : WriteS) : (encW s).all oneC = true := rfl

theorem sector_Disk_lose_fn (b : Nat) (D : DiskS) (keep : Int) (hq : ∀ x ∈ D.queue, 0 ≤ x.n ∧ x.n < D.lasting.length) (hn : D.now.length = D.lasting.length) (hql : D.queue.length ≤ 1000000) : Does P F_sector_Disk_lose [.pointer (some ⟨b, 0, none⟩), .int .i64 keep] [diskC b D] fun v cs => v = .tuple #[] ∧ cs = [diskC b (D.lose keep)] := by
  refine Does.mk (N := 45) fn_sector_Disk_lose rfl rfl rfl (fun F => ?_)
  simp only [List.cons_append, List.nil_append]
  refine XC.opn t0 ?_
  rintro ⟨vl, vn, vq, wr, fl⟩
  dsimp only [List.cons_append, List.nil_append]
  refine XC.seq ?_
  refine XC.seq ?_
  refine XC.reg ?_
  refine XL.mv rfl rfl ?_
  refine XL.ncP rfl rfl ?_
  refine XL.fa fo_sector_Disk_2 rfl rfl ?_
  refine XL.ld o_L_sector_write rfl (by rfl) rfl ?_
  refine XL.lenS e_L_sector_write rfl rfl ?_
  refine XL.mv rfl rfl ?_
  refine XL.nil ?_
  refine XQ.thenN ?_
  refine XC.block ?_
  refine XC.loop (ι := Nat) (fun i => [(0, .pointer (some ⟨b, 0, none⟩)), (1, .int .i64 keep), (9, vq), (10, .int .i64 D.queue.length), (11, .int .i64 (i : Int))])
    (fun i => [blk b [vl, vn, vq, .int .i64 D.left, .int .i64 D.keep, .bool D.off, .int .i64 wr, .int .i64 fl] T_sector_Disk, sl vl encS (D.loseTo keep i) T_string 1, sl vn encS D.now T_string 1, sl vq encW D.queue T_sector_write 2, F])
    (fun i => i ≤ D.queue.length) (fun i => D.queue.length - i) 0 (Nat.zero_le _) ⟨rfl, rfl, rfl, rfl, rfl, trivial⟩ (fun w h => h) (fun i hi => ?_)
  refine XC.seq ?_
  refine XC.reg ?_
  refine XL.bin rfl rfl rfl (bLss) ?_
  refine XL.nil ?_
  refine XQ.thenN ?_
  refine XC.seq ?_
  refine XC.cond rfl (fun hc0 => ?_) (fun hc0 => ?_)
  · have hlt : i < D.queue.length := by omega
    have hx := hq _ (List.getElem_mem hlt)
    refine XC.skip ?_
    refine XQ.thenN ?_
    refine XC.seq ?_
    refine XC.block ?_
    refine XC.seq ?_
    refine XC.reg ?_
    refine XL.mv rfl rfl ?_
    refine XL.ixS i e_L_sector_write rfl rfl rfl hlt rfl (fun b14 _ => ?_)
    refine XL.ldSN g_sector_write rfl hlt rfl ?_
    refine XL.al z_sector_write rfl (fun b5 => ?_)
    refine XL.as rfl rfl ?_
    refine XL.stN (xs' := [.int .i64 (D.queue[i]).n, S (D.queue[i]).data]) g_sector_write rfl rfl rfl (by rfl) (by rfl) rfl ?_
    refine XL.nil ?_
    refine XQ.thenN ?_
    refine XC.seq ?_
    refine XC.reg ?_
    refine XL.mv rfl rfl ?_
    first | refine XL.cvI u_int u_uint64 rfl (IntWalk.u64_in _ (by omega)) rfl ?_ | refine XL.cvI u_int u_uint64 rfl rfl rfl ?_
    refine XL.mv rfl rfl ?_
    refine XL.bin rfl rfl rfl (bRem (by omega)) ?_
    refine XL.bin rfl rfl rfl (bShr (by omega)) ?_
    refine XL.bin rfl rfl rfl (bAndK) ?_
    refine XL.bin rfl rfl rfl bEqI ?_
    refine XL.nil ?_
    refine XQ.thenN ?_
    refine XC.cond rfl (fun hc1 => ?_) (fun hc1 => ?_)
    · have hxl : (D.queue[i]).n.toNat < (D.loseTo keep i).length := by rw [D.loseTo_length]; omega
      refine XC.isAt vl _ hxl ?_
      intro bl _
      refine XC.drw (.q 0 <| .q 1 <| .q 2 <| .q 3 <| .q 4 <| .q 5 <| .q 6 <| .q 7 <| .q 8 <| .e 9 <| .done) mixed (by kernel_rfl) rfl ?_
      refine JP.qq rfl rfl rfl (XL.mv rfl rfl XL.qd) ?_
      refine JP.qq rfl rfl rfl (XL.ncP rfl rfl XL.qd) ?_
      refine JP.qq rfl rfl rfl (XL.fa fo_sector_Disk_0 rfl rfl XL.qd) ?_
      refine JP.qq rfl rfl rfl (XL.ld o_L_string rfl (by rfl) rfl XL.qd) ?_
      refine JP.qq rfl rfl rfl (XL.fa fo_sector_write_0 rfl rfl XL.qd) ?_
      refine JP.qq rfl rfl rfl (XL.ld o_int rfl (by rfl) rfl XL.qd) ?_
      refine JP.qq rfl rfl rfl (XL.fa fo_sector_write_1 rfl rfl XL.qd) ?_
      refine JP.qq rfl rfl rfl (XL.ld o_string rfl (by rfl) rfl XL.qd) ?_
      refine JP.qq rfl rfl rfl (XL.ixB (D.queue[i]).n.toNat e_L_string rfl rfl (by omega) hxl rfl XL.qd) ?_
      refine JP.ee rfl ?_
      refine XL.stS1 (D.queue[i]).data o_string rfl rfl hxl rfl rfl ?_
      refine XL.edn ?_
      refine JP.done ?_
      refine XQ.blkN ?_
      refine XQ.thenN ?_
      refine XC.reg ?_
      refine XL.bin rfl rfl rfl (bAdd (by omega)) ?_
      refine XL.mv rfl rfl ?_
      refine XL.nil ?_
      exact XQ.again (i + 1) (by omega) (by omega) ⟨rfl, rfl, rfl, rfl, rfl, trivial⟩ (fun w h => by first | (rw [DiskS.loseTo_yes (by omega) hc1]; exact Sat.tail h) | (rw [DiskS.loseTo_no (by omega) hc1]; exact Sat.tail h))
    · refine XC.skip ?_
      refine XQ.blkN ?_
      refine XQ.thenN ?_
      refine XC.reg ?_
      refine XL.bin rfl rfl rfl (bAdd (by omega)) ?_
      refine XL.mv rfl rfl ?_
      refine XL.nil ?_
      exact XQ.again (i + 1) (by omega) (by omega) ⟨rfl, rfl, rfl, rfl, rfl, trivial⟩ (fun w h => by first | (rw [DiskS.loseTo_yes (by omega) hc1]; exact Sat.tail h) | (rw [DiskS.loseTo_no (by omega) hc1]; exact Sat.tail h))
  · obtain rfl : i = D.queue.length := by omega
    refine XC.exit ?_
    refine XQ.thenE ?_
    refine XQ.thenE ?_
    refine XQ.blkE ?_
    refine XQ.thenN ?_
    refine XC.seq ?_
    refine XC.reg ?_
    refine XL.mv rfl rfl ?_
    refine XL.ncP rfl rfl ?_
    refine XL.fa fo_sector_Disk_2 rfl rfl ?_
    refine XL.st o_L_sector_write rfl rfl rfl ?_
    refine XL.nil ?_
    refine XQ.thenN ?_
    refine XC.drw (.q 0 <| .q 1 <| .q 2 <| .q 3 <| .q 4 <| .q 5 <| .q 6 <| .q 7 <| .e 8 <| .done) mixed (by kernel_rfl) rfl ?_
    refine JP.qq rfl rfl rfl (XL.mv rfl rfl XL.qd) ?_
    refine JP.qq rfl rfl rfl (XL.ncP rfl rfl XL.qd) ?_
    refine JP.qq rfl rfl rfl (XL.fa fo_sector_Disk_1 rfl rfl XL.qd) ?_
    refine JP.qq rfl rfl rfl (XL.ld o_L_string rfl (by rfl) rfl XL.qd) ?_
    refine JP.qq rfl rfl rfl (XL.mv rfl rfl XL.qd) ?_
    refine JP.qq rfl rfl rfl (XL.ncP rfl rfl XL.qd) ?_
    refine JP.qq rfl rfl rfl (XL.fa fo_sector_Disk_0 rfl rfl XL.qd) ?_
    refine JP.qq rfl rfl rfl (XL.ld o_L_string rfl (by rfl) rfl XL.qd) ?_
    refine JP.ee rfl ?_
    refine XL.cp e_L_string rfl rfl (fun x _ => encS_one x) rfl ?_
    refine XL.ed ?_
    refine JP.done ?_
    exact XQ.ret (.inr rfl) rfl (rN) [diskC b (D.lose keep)] (⟨rfl, rfl⟩) (fun w h => by have h3 := Take.sat (t1.c <| t1.c <| t1.c <| t0.c <| t0.c tn) (sl_nil (enc := encW) (e := T_sector_write) (sz := 2) (Take.sat (t0.c <| t0.c <| t0.c <| t1.c tn) h)); rw [List.take_of_length_le (by rw [D.loseTo_length]; omega), List.drop_of_length_le (by rw [D.loseTo_length]; omega), List.append_nil] at h3; exact Sat.shut ⟨vl, vn, .slice none 0 0, _, _⟩ h3)

theorem sector_Disk_Crash_fn (b : Nat) (D : DiskS) (keep : Int) (hq : ∀ x ∈ D.queue, 0 ≤ x.n ∧ x.n < D.lasting.length) (hn : D.now.length = D.lasting.length) (hql : D.queue.length ≤ 1000000) : Does P F_sector_Disk_Crash [.pointer (some ⟨b, 0, none⟩), .int .i64 keep] [diskC b D] fun v cs => v = .tuple #[] ∧ cs = [diskC b { D.lose keep with off := false, left := 0 }] := by
  refine Does.mk (N := 11) fn_sector_Disk_Crash rfl rfl rfl (fun F => ?_)
  simp only [List.cons_append, List.nil_append]
  refine XC.seq ?_
  refine XC.reg ?_
  refine XL.mv rfl rfl ?_
  refine XL.bin rfl rfl rfl (bNePF u_P_sector_Disk) ?_
  refine XL.nil ?_
  refine XQ.thenN ?_
  refine XC.condT rfl ?_
  refine XC.seq ?_
  refine XC.reg ?_
  refine XL.mv rfl rfl ?_
  refine XL.mv rfl rfl ?_
  refine XL.call hb_sector_Disk_lose rfl rfl (sector_Disk_lose_fn b D keep hq hn hql) (t0.c tn) ?_
  rintro _ _ ⟨rfl, rfl⟩
  simp only [List.cons_append, List.nil_append]
  refine XL.nil ?_
  refine XQ.thenN ?_
  refine XC.reg ?_
  refine XL.mv rfl rfl ?_
  refine XL.call hb_sector_Disk_On rfl rfl (sector_Disk_On_fn _ _) (t0.c tn) ?_
  rintro _ _ ⟨rfl, rfl⟩
  simp only [List.cons_append, List.nil_append]
  refine XL.nil ?_
  exact XQ.ret (.inr rfl) rfl (rN) [diskC b { D.lose keep with off := false, left := 0 }] (⟨rfl, rfl⟩) (fun w h => h)

/-- A disk as it should be. -/
structure DiskS.wf (D : DiskS) : Prop where
  len : D.now.length = D.lasting.length
  most : D.now.length ≤ 1026
  q : ∀ x ∈ D.queue, 0 ≤ x.n ∧ x.n < D.lasting.length
  left0 : 0 ≤ D.left
  left1 : D.left ≤ 9223372036854775807
  size : ∀ s ∈ D.now, s.length ≤ 256
def DiskS.flushed (D : DiskS) : DiskS := { D.tear with lasting := D.now, queue := [] }
theorem DiskS.tear_off {D : DiskS} (h : D.torn = false) (h0 : D.left = 0) : D.tear = D := by simp [DiskS.tear, h0]

theorem sector_Disk_Flush_fn (b : Nat) (D : DiskS) (h : D.wf) (hoff : D.off = false) (hleft : D.left = 0) : Does P F_sector_Disk_Flush [.pointer (some ⟨b, 0, none⟩)] [diskC b D] fun v cs => v = .int .i64 0 ∧ cs = [diskC b { D with lasting := D.now, queue := [] }] := by
  refine Does.mk (N := 42) fn_sector_Disk_Flush rfl rfl rfl (fun F => ?_)
  simp only [List.cons_append, List.nil_append]
  refine XC.seq ?_
  refine XC.reg ?_
  refine XL.as rfl rfl ?_
  refine XL.nil ?_
  refine XQ.thenN ?_
  refine XC.seq ?_
  refine XC.block ?_
  refine XC.seq ?_
  refine XC.reg ?_
  refine XL.mv rfl rfl ?_
  refine XL.bin rfl rfl rfl (bEqPF u_P_sector_Disk) ?_
  refine XL.as rfl rfl ?_
  refine XL.nil ?_
  refine XQ.thenN ?_
  refine XC.condF rfl ?_
  refine XC.seq ?_
  refine XC.opn t0 ?_
  rintro ⟨vl, vn, vq, wr, fl⟩
  dsimp only [List.cons_append, List.nil_append]
  refine XC.reg ?_
  refine XL.mv rfl rfl ?_
  refine XL.ncP rfl rfl ?_
  refine XL.fa fo_sector_Disk_4 rfl rfl ?_
  refine XL.ld o_bool rfl (by rfl) rfl ?_
  refine XL.as rfl rfl ?_
  refine XL.nil ?_
  refine XQ.thenN ?_
  refine XC.re 6 (u := .bool false) rfl (by rw [hoff]) ?_
  refine XC.condF rfl ?_
  refine XC.skip ?_
  refine XQ.blkN ?_
  refine XQ.thenN ?_
  refine XC.seq ?_
  refine XC.seq ?_
  refine XC.to (fun w h => (Sat.shut ⟨vl, vn, vq, wr, fl⟩ h : Sat [diskC b D, F] w)) ?_
  refine XC.reg ?_
  refine XL.mv rfl rfl ?_
  refine XL.call hb_sector_Disk_torn rfl rfl (sector_Disk_torn_fn b D h.left0 h.left1) (t0.c tn) ?_
  rintro _ _ ⟨rfl, rfl⟩
  simp only [List.cons_append, List.nil_append]
  refine XL.nil ?_
  refine XQ.thenN ?_
  have ht : D.torn = false := by simp [DiskS.torn, hleft]
  refine XC.re 12 (u := .bool false) rfl (by rw [ht]) ?_
  refine XC.to (fun w h => (by rw [DiskS.tear_off ht hleft] at h; exact h : Sat [diskC b D, F] w)) ?_
  refine XC.condF rfl ?_
  refine XC.skip ?_
  refine XQ.thenN ?_
  refine XC.seq ?_
  refine XC.opn t0 ?_
  rintro ⟨vl, vn, vq, wr, fl⟩
  dsimp only [List.cons_append, List.nil_append]
  refine XC.drw (.q 0 <| .q 1 <| .q 2 <| .q 3 <| .q 4 <| .q 5 <| .q 6 <| .q 7 <| .e 8 <| .done) mixed (by kernel_rfl) rfl ?_
  refine JP.qq rfl rfl rfl (XL.mv rfl rfl XL.qd) ?_
  refine JP.qq rfl rfl rfl (XL.ncP rfl rfl XL.qd) ?_
  refine JP.qq rfl rfl rfl (XL.fa fo_sector_Disk_0 rfl rfl XL.qd) ?_
  refine JP.qq rfl rfl rfl (XL.ld o_L_string rfl (by rfl) rfl XL.qd) ?_
  refine JP.qq rfl rfl rfl (XL.mv rfl rfl XL.qd) ?_
  refine JP.qq rfl rfl rfl (XL.ncP rfl rfl XL.qd) ?_
  refine JP.qq rfl rfl rfl (XL.fa fo_sector_Disk_1 rfl rfl XL.qd) ?_
  refine JP.qq rfl rfl rfl (XL.ld o_L_string rfl (by rfl) rfl XL.qd) ?_
  refine JP.ee rfl ?_
  refine XL.cp e_L_string rfl rfl (fun x _ => encS_one x) rfl ?_
  refine XL.ed ?_
  refine JP.done ?_
  refine XQ.thenN ?_
  refine XC.seq ?_
  refine XC.reg ?_
  refine XL.mv rfl rfl ?_
  refine XL.ncP rfl rfl ?_
  refine XL.fa fo_sector_Disk_2 rfl rfl ?_
  refine XL.st o_L_sector_write rfl rfl rfl ?_
  refine XL.nil ?_
  refine XQ.thenN ?_
  refine XC.seq ?_
  refine XC.reg ?_
  refine XL.mv rfl rfl ?_
  refine XL.ncP rfl rfl ?_
  refine XL.fa fo_sector_Disk_6 rfl rfl ?_
  refine XL.ld o_int rfl (by rfl) rfl ?_
  refine XL.bin rfl rfl rfl bAddK ?_
  refine XL.ncP rfl rfl ?_
  refine XL.fa fo_sector_Disk_6 rfl rfl ?_
  refine XL.st o_int rfl rfl rfl ?_
  refine XL.nil ?_
  refine XQ.thenN ?_
  refine XC.seq ?_
  refine XC.reg ?_
  refine XL.as rfl rfl ?_
  refine XL.nil ?_
  refine XQ.thenN ?_
  refine XC.ret ?_
  exact XQ.ret (.inl rfl) rfl (rC (resT rfl) <| rN) [diskC b { D with lasting := D.now, queue := [] }] (⟨rfl, rfl⟩) (fun w hs => by have h3 := Take.sat (t1.c <| t1.c <| t1.c <| t0.c <| t0.c tn) (sl_nil (enc := encW) (e := T_sector_write) (sz := 2) (Take.sat (t0.c <| t0.c <| t0.c <| t1.c tn) hs)); rw [List.take_of_length_le (by rw [h.len]; omega), List.drop_of_length_le (by rw [h.len]; omega), List.append_nil] at h3; exact Sat.shut ⟨vl, vn, .slice none 0 0, _, _⟩ h3)

def DiskS.write (D : DiskS) (n : Nat) (data : List UInt8) : DiskS := { D with queue := D.queue ++ [⟨(n : Int), data⟩], now := D.now.set n data }

theorem sector_Disk_Write_fn (b : Nat) (D : DiskS) (n : Nat) (data : List UInt8) (hn : n < D.now.length) (hd : data.length ≤ 256) (hql : D.queue.length ≤ 1000000) (hsz : D.now.length ≤ 1026) (hoff : D.off = false) (hleft : D.left = 0) : Does P F_sector_Disk_Write [.pointer (some ⟨b, 0, none⟩), .int .i64 (n : Int), S data] [diskC b D] fun v cs => v = .int .i64 0 ∧ cs = [diskC b (D.write n data)] := by
  refine Does.mk (N := 64) fn_sector_Disk_Write rfl rfl rfl (fun F => ?_)
  simp only [List.cons_append, List.nil_append]
  refine XC.seq ?_
  refine XC.reg ?_
  refine XL.as rfl rfl ?_
  refine XL.nil ?_
  refine XQ.thenN ?_
  refine XC.seq ?_
  refine XC.block ?_
  refine XC.seq ?_
  refine XC.reg ?_
  refine XL.mv rfl rfl ?_
  refine XL.bin rfl rfl rfl (bLss) ?_
  refine XL.mv rfl rfl ?_
  refine XL.re 10 (u := .bool false) rfl (congrArg Value.bool (decide_eq_false (by omega))) ?_
  refine XL.mv rfl rfl ?_
  refine XL.mv rfl rfl ?_
  refine XL.call hb_sector_Disk_Size rfl rfl (sector_Disk_Size_fn _ _) (t0.c tn) ?_
  rintro _ _ ⟨rfl, rfl⟩
  simp only [List.cons_append, List.nil_append]
  refine XL.bin rfl rfl rfl (bGeq) ?_
  refine XL.pkF rfl rfl rfl ?_
  refine XL.mv rfl rfl ?_
  refine XL.re 16 (u := .bool false) rfl (congrArg Value.bool (decide_eq_false (by omega))) ?_
  refine XL.mv rfl rfl ?_
  refine XL.lenT u_string rfl rfl ?_
  refine XL.bin rfl rfl rfl (bGtr) ?_
  refine XL.pkF rfl rfl rfl ?_
  refine XL.as rfl rfl ?_
  refine XL.nil ?_
  refine XQ.thenN ?_
  refine XC.condF' rfl (decide_eq_false (by omega)) ?_
  refine XC.seq ?_
  refine XC.opn t0 ?_
  rintro ⟨vl, vn, vq, wr, fl⟩
  dsimp only [List.cons_append, List.nil_append]
  refine XC.reg ?_
  refine XL.mv rfl rfl ?_
  refine XL.ncP rfl rfl ?_
  refine XL.fa fo_sector_Disk_4 rfl rfl ?_
  refine XL.ld o_bool rfl (by rfl) rfl ?_
  refine XL.as rfl rfl ?_
  refine XL.nil ?_
  refine XQ.thenN ?_
  refine XC.condF' rfl (hoff) ?_
  refine XC.skip ?_
  refine XQ.blkN ?_
  refine XQ.thenN ?_
  refine XC.seq ?_
  refine XC.reg ?_
  refine XL.mv rfl rfl ?_
  refine XL.mv rfl rfl ?_
  refine XL.ncP rfl rfl ?_
  refine XL.fa fo_sector_Disk_2 rfl rfl ?_
  refine XL.ld o_L_sector_write rfl (by rfl) rfl ?_
  refine XL.mv rfl rfl ?_
  refine XL.mv rfl rfl ?_
  refine XL.bd z_sector_write p_sector_write rfl rfl ?_
  refine XL.bs (enc := encW) [⟨(n : Int), data⟩] e_L_sector_write z_sector_write rfl rfl rfl (by intro x hx; rfl) rfl (fun v34 _ => ?_)
  refine XL.app [⟨(n : Int), data⟩] e_L_sector_write e_L_sector_write z_sector_write rfl rfl rfl rfl (fun x _ => encW_one x) (by simp; omega) rfl (fun v35 _ => ?_)
  refine XL.ncP rfl rfl ?_
  refine XL.fa fo_sector_Disk_2 rfl rfl ?_
  refine XL.st o_L_sector_write rfl rfl rfl ?_
  refine XL.nil ?_
  refine XQ.thenN ?_
  refine XC.seq ?_
  refine XC.reg ?_
  refine XL.mv rfl rfl ?_
  refine XL.ncP rfl rfl ?_
  refine XL.fa fo_sector_Disk_1 rfl rfl ?_
  refine XL.ld o_L_string rfl (by rfl) rfl ?_
  refine XL.mv rfl rfl ?_
  refine XL.mv rfl rfl ?_
  refine XL.ixS n e_L_string rfl rfl rfl hn rfl (fun b44 _ => ?_)
  refine XL.stS1 data o_string rfl rfl hn rfl rfl ?_
  refine XL.nil ?_
  refine XQ.thenN ?_
  refine XC.seq ?_
  refine XC.seq ?_
  refine XC.to (fun w h => (Sat.shut ⟨vl, vn, v35, wr, fl⟩ (Take.sat (t2.c <| t2.c <| t2.c <| t0.c <| t1.c tn) h) : Sat [diskC b (D.write n data), F] w)) ?_
  refine XC.reg ?_
  refine XL.mv rfl rfl ?_
  refine XL.call hb_sector_Disk_torn rfl rfl (sector_Disk_torn_fn b (D.write n data) (by show 0 ≤ D.left; omega) (by show D.left ≤ _; omega)) (t0.c tn) ?_
  rintro _ _ ⟨rfl, rfl⟩
  simp only [List.cons_append, List.nil_append]
  refine XL.nil ?_
  refine XQ.thenN ?_
  refine XC.condF' rfl (by simp [DiskS.torn, DiskS.write, hleft]) ?_
  refine XC.skip ?_
  refine XQ.thenN ?_
  refine XC.seq ?_
  refine XC.to (fun w h => (by rw [show (D.write n data).tear = D.write n data by simp [DiskS.tear, DiskS.write, hleft]] at h; exact h : Sat [diskC b (D.write n data), F] w)) ?_
  refine XC.opn t0 ?_
  rintro ⟨vl, vn, vq, wr, fl⟩
  dsimp only [List.cons_append, List.nil_append]
  refine XC.reg ?_
  refine XL.mv rfl rfl ?_
  refine XL.ncP rfl rfl ?_
  refine XL.fa fo_sector_Disk_5 rfl rfl ?_
  refine XL.ld o_int rfl (by rfl) rfl ?_
  refine XL.bin rfl rfl rfl bAddK ?_
  refine XL.ncP rfl rfl ?_
  refine XL.fa fo_sector_Disk_5 rfl rfl ?_
  refine XL.st o_int rfl rfl rfl ?_
  refine XL.nil ?_
  refine XQ.thenN ?_
  refine XC.seq ?_
  refine XC.reg ?_
  refine XL.as rfl rfl ?_
  refine XL.nil ?_
  refine XQ.thenN ?_
  refine XC.ret ?_
  exact XQ.ret (.inl rfl) rfl (rC (resT rfl) <| rN) [diskC b (D.write n data)] (⟨rfl, rfl⟩) (fun w h => Sat.shut ⟨vl, vn, vq, _, _⟩ h)

/-- A sector as it is read. -/
def full (s : List UInt8) : List UInt8 := s ++ List.replicate (256 - s.length) 0

theorem sector_Disk_Read_fn (b : Nat) (D : DiskS) (n : Nat) (hn : n < D.now.length) (hsz : D.now.length ≤ 1026) (hl : (D.now[n]).length ≤ 256) (hoff : D.off = false) : Does P F_sector_Disk_Read [.pointer (some ⟨b, 0, none⟩), .int .i64 (n : Int)] [diskC b D] fun v cs => v = .tuple #[S (full (D.now[n])), .int .i64 0] ∧ cs = [diskC b D] := by
  refine Does.mk (N := 34) fn_sector_Disk_Read rfl rfl rfl (fun F => ?_)
  simp only [List.cons_append, List.nil_append]
  refine XC.seq ?_
  refine XC.reg ?_
  refine XL.as rfl rfl ?_
  refine XL.as rfl rfl ?_
  refine XL.nil ?_
  refine XQ.thenN ?_
  refine XC.seq ?_
  refine XC.block ?_
  refine XC.seq ?_
  refine XC.reg ?_
  refine XL.mv rfl rfl ?_
  refine XL.bin rfl rfl rfl (bLss) ?_
  refine XL.mv rfl rfl ?_
  refine XL.re 10 (u := .bool false) rfl (congrArg Value.bool (decide_eq_false (by omega))) ?_
  refine XL.mv rfl rfl ?_
  refine XL.mv rfl rfl ?_
  refine XL.call hb_sector_Disk_Size rfl rfl (sector_Disk_Size_fn _ _) (t0.c tn) ?_
  rintro _ _ ⟨rfl, rfl⟩
  simp only [List.cons_append, List.nil_append]
  refine XL.bin rfl rfl rfl (bGeq) ?_
  refine XL.pkF rfl rfl rfl ?_
  refine XL.as rfl rfl ?_
  refine XL.nil ?_
  refine XQ.thenN ?_
  refine XC.condF' rfl (decide_eq_false (by omega)) ?_
  refine XC.seq ?_
  refine XC.opn t0 ?_
  rintro ⟨vl, vn, vq, wr, fl⟩
  dsimp only [List.cons_append, List.nil_append]
  refine XC.reg ?_
  refine XL.mv rfl rfl ?_
  refine XL.ncP rfl rfl ?_
  refine XL.fa fo_sector_Disk_4 rfl rfl ?_
  refine XL.ld o_bool rfl (by rfl) rfl ?_
  refine XL.as rfl rfl ?_
  refine XL.nil ?_
  refine XQ.thenN ?_
  refine XC.condF' rfl (hoff) ?_
  refine XC.skip ?_
  refine XQ.blkN ?_
  refine XQ.thenN ?_
  refine XC.seq ?_
  refine XC.reg ?_
  refine XL.mv rfl rfl ?_
  refine XL.ncP rfl rfl ?_
  refine XL.fa fo_sector_Disk_1 rfl rfl ?_
  refine XL.ld o_L_string rfl (by rfl) rfl ?_
  refine XL.mv rfl rfl ?_
  refine XL.ixS n e_L_string rfl rfl rfl hn rfl (fun b26 _ => ?_)
  refine XL.ldS1 o_string rfl hn rfl rfl ?_
  refine XL.as rfl rfl ?_
  refine XL.nil ?_
  refine XQ.thenN ?_
  refine XC.seq ?_
  refine XC.reg ?_
  refine XL.mv rfl rfl ?_
  refine XL.mv rfl rfl ?_
  refine XL.lenT u_string rfl rfl ?_
  refine XL.bin rfl rfl rfl (bSub (by omega)) ?_
  refine XL.re 31 (u := .int .i64 ((256 - (D.now[n]).length : Nat) : Int)) rfl (by congr 1; omega) ?_
  refine XL.call hb_strings_Repeat rfl rfl (strings_Repeat_fn [0] (256 - (D.now[n]).length) (by omega) (by simp; omega)) tn ?_
  rintro _ _ ⟨rfl, rfl⟩
  simp only [List.nil_append, repeatL_one]
  refine XL.bin rfl rfl rfl (bAddS (by simp; omega)) ?_
  refine XL.as rfl rfl ?_
  refine XL.as rfl rfl ?_
  refine XL.nil ?_
  refine XQ.thenN ?_
  refine XC.ret ?_
  exact XQ.ret (.inl rfl) rfl (rC (resT rfl) <| rC (resT rfl) <| rN) [diskC b D] (⟨rfl, rfl⟩) (fun w h => Sat.shut ⟨vl, vn, vq, _, _⟩ h)

def DiskS.new (n : Nat) : DiskS := ⟨List.replicate n [], List.replicate n [], [], 0, 0, false⟩

theorem sector_New_fn (n : Nat) (h1 : 1 ≤ n) (h2 : n ≤ 1026) : Does P F_sector_New [.int .i64 (n : Int)] [] fun v cs => ∃ b, v = .tuple #[.pointer (some ⟨b, 0, none⟩), .int .i64 0] ∧ cs = [diskC b (DiskS.new n)] := by
  refine Does.mk (N := 16) fn_sector_New rfl rfl rfl (fun F => ?_)
  simp only [List.cons_append, List.nil_append]
  refine XC.seq ?_
  refine XC.reg ?_
  refine XL.as rfl rfl ?_
  refine XL.as rfl rfl ?_
  refine XL.nil ?_
  refine XQ.thenN ?_
  refine XC.seq ?_
  refine XC.seq ?_
  refine XC.reg ?_
  refine XL.mv rfl rfl ?_
  refine XL.bin rfl rfl rfl (bLss) ?_
  refine XL.mv rfl rfl ?_
  refine XL.re 6 (u := .bool false) rfl (congrArg Value.bool (decide_eq_false (by omega))) ?_
  refine XL.mv rfl rfl ?_
  refine XL.bin rfl rfl rfl (bGtr) ?_
  refine XL.pkF rfl rfl rfl ?_
  refine XL.nil ?_
  refine XQ.thenN ?_
  refine XC.condF' rfl (decide_eq_false (by omega)) ?_
  refine XC.skip ?_
  refine XQ.thenN ?_
  refine XC.seq ?_
  refine XC.keep (L' := [(0, .int .i64 (n : Int))]) ⟨rfl, trivial⟩ ?_
  refine XC.drw (.q 0 <| .q 2 <| .e2 1 (.r 2 <| .e 3 <| .q 4 <| .e 5 <| .q 6 <| .q 7 <| .done) 3 (.r 0 <| .e 1 <| .q 4 <| .e 5 <| .q 6 <| .q 7 <| .done)) mixed (by kernel_rfl) rfl ?_
  refine JP.qq rfl rfl rfl (XL.mv rfl rfl XL.qd) ?_
  refine JP.qq rfl rfl rfl (XL.mv rfl rfl XL.qd) ?_
  refine JP.e22 ?_ ?_
  · refine ⟨_, rfl, ?_⟩
    refine XL.mk (enc := encS) n ([] : List UInt8) e_L_string z_string rfl rfl rfl rfl (by omega) (by omega) rfl (fun v11 _ => ?_)
    refine XL.ed ?_
    refine JP.rr rfl rfl rfl (XL.mv rfl rfl XL.qd) ?_
    refine JP.ee rfl ?_
    refine XL.mk (enc := encS) n ([] : List UInt8) e_L_string z_string rfl rfl rfl rfl (by omega) (by omega) rfl (fun v13 _ => ?_)
    refine XL.ed ?_
    refine JP.qq rfl rfl rfl (XL.bd z_sector_Disk p_sector_Disk rfl rfl XL.qd) ?_
    refine JP.ee rfl ?_
    refine XL.bx rfl rfl rfl (fun b15 => ?_)
    refine XL.ed ?_
    refine JP.qq rfl rfl rfl (XL.as rfl rfl XL.qd) ?_
    refine JP.qq rfl rfl rfl (XL.as rfl rfl XL.qd) ?_
    refine JP.done ?_
    refine XQ.thenN ?_
    refine XC.ret ?_
    exact XQ.ret (.inl rfl) rfl (rC (resT rfl) <| rC (resT rfl) <| rN) [diskC b15 (DiskS.new n)] (⟨b15, rfl, rfl⟩) (fun w h => by first | exact Sat.shut ⟨v11, v13, .slice none 0 0, 0, 0⟩ (Take.sat (t1.c <| t3.c <| t1.c <| t0.c tall) (sl_nil (enc := encW) (e := T_sector_write) (sz := 2) h)) | exact Sat.shut ⟨v11, v13, .slice none 0 0, 0, 0⟩ (Take.sat (t1.c <| t1.c <| t1.c <| t0.c tall) (sl_nil (enc := encW) (e := T_sector_write) (sz := 2) h)) | exact Sat.shut ⟨v11, v13, .slice none 0 0, 0, 0⟩ (Take.sat (t1.c <| t2.c <| t1.c <| t0.c tall) (sl_nil (enc := encW) (e := T_sector_write) (sz := 2) h)))
  · refine ⟨_, rfl, ?_⟩
    refine XL.mk (enc := encS) n ([] : List UInt8) e_L_string z_string rfl rfl rfl rfl (by omega) (by omega) rfl (fun v13 _ => ?_)
    refine XL.ed ?_
    refine JP.rr rfl rfl rfl (XL.mv rfl rfl XL.qd) ?_
    refine JP.ee rfl ?_
    refine XL.mk (enc := encS) n ([] : List UInt8) e_L_string z_string rfl rfl rfl rfl (by omega) (by omega) rfl (fun v11 _ => ?_)
    refine XL.ed ?_
    refine JP.qq rfl rfl rfl (XL.bd z_sector_Disk p_sector_Disk rfl rfl XL.qd) ?_
    refine JP.ee rfl ?_
    refine XL.bx rfl rfl rfl (fun b15 => ?_)
    refine XL.ed ?_
    refine JP.qq rfl rfl rfl (XL.as rfl rfl XL.qd) ?_
    refine JP.qq rfl rfl rfl (XL.as rfl rfl XL.qd) ?_
    refine JP.done ?_
    refine XQ.thenN ?_
    refine XC.ret ?_
    exact XQ.ret (.inl rfl) rfl (rC (resT rfl) <| rC (resT rfl) <| rN) [diskC b15 (DiskS.new n)] (⟨b15, rfl, rfl⟩) (fun w h => by first | exact Sat.shut ⟨v11, v13, .slice none 0 0, 0, 0⟩ (Take.sat (t1.c <| t3.c <| t1.c <| t0.c tall) (sl_nil (enc := encW) (e := T_sector_write) (sz := 2) h)) | exact Sat.shut ⟨v11, v13, .slice none 0 0, 0, 0⟩ (Take.sat (t1.c <| t1.c <| t1.c <| t0.c tall) (sl_nil (enc := encW) (e := T_sector_write) (sz := 2) h)) | exact Sat.shut ⟨v11, v13, .slice none 0 0, 0, 0⟩ (Take.sat (t1.c <| t2.c <| t1.c <| t0.c tall) (sl_nil (enc := encW) (e := T_sector_write) (sz := 2) h)))
end Go.Proofs.YthlfbndanknnmaaDoor
