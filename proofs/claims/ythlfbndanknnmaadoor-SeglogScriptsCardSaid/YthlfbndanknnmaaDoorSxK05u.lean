/-
  The document's log: what each of its functions does. Printed by mk.py out of spec_k05u.py.
-/
import Derived.Test.YthlfbndanknnmaaDoorSxK05t
import Derived.Test.YthlfbndanknnmaaDoorSx14
namespace Go.Proofs.YthlfbndanknnmaaDoor
open Go Go.Sx

abbrev encN (n : Nat) : List Value := [.int .i64 (n : Int)]
theorem encN_one (n : Nat) : (encN n).all oneC = true := rfl
/-- The document's log. -/
structure RefL where
  segs : Nat
  ids : List Nat
  used : List Nat
  seq : Nat
  boot : Nat
  serial : Nat
structure RefZ where
  vi : Value
  vu : Value
def refC (b : Nat) (W : RefL) : Chunk := exi fun z : RefZ => [blk b [.int .i64 (W.segs : Int), z.vi, z.vu, .int .i64 (W.seq : Int), .int .i64 (W.boot : Int), .int .i64 (W.serial : Int)] T_coracleref05_Log, sl z.vi encN W.ids T_int 1, sl z.vu encN W.used T_int 1]
theorem parts_at {n k : Nat} (h1 : 233 * k ≤ n) (h2 : k = 0 ∨ 233 * k < n) (h3 : ¬ 233 < n - 233 * k) : (1 + k : Int) = partsZ n := by unfold partsZ; omega

theorem coracleref05_Parts_fn (n : Nat) (h : n ≤ 1000000000000000) : Does P F_coracleref05_Parts [.int .i64 (n : Int)] [] fun v cs => v = .int .i64 (partsZ n) ∧ cs = [] := by
  refine Does.mk (N := 11) fn_coracleref05_Parts rfl rfl rfl (fun F => ?_)
  simp only [List.cons_append, List.nil_append]
  refine XC.seq ?_
  refine XC.reg ?_
  refine XL.as rfl rfl ?_
  refine XL.nil ?_
  refine XQ.thenN ?_
  refine XC.seq ?_
  refine XC.reg ?_
  refine XL.as rfl rfl ?_
  refine XL.nil ?_
  refine XQ.thenN ?_
  refine XC.seq ?_
  refine XC.block ?_
  refine XC.loop (ι := Nat) (fun k => [(0, .int .i64 ((n - 233 * k : Nat) : Int)), (3, .int .i64 (1 + (k : Int)))]) (fun k => [F]) (fun k => 233 * k ≤ n ∧ (k = 0 ∨ 233 * k < n)) (fun k => n - 233 * k) 0 ⟨by omega, .inl rfl⟩ ⟨rfl, rfl, trivial⟩ (fun w h => h) (fun k hk => ?_)
  refine XC.seq ?_
  refine XC.seq ?_
  refine XC.reg ?_
  refine XL.mv rfl rfl ?_
  refine XL.bin rfl rfl rfl (bGtr) ?_
  refine XL.nil ?_
  refine XQ.thenN ?_
  refine XC.cond rfl (fun hc0 => ?_) (fun hc0 => ?_)
  · refine XC.skip ?_
    refine XQ.thenN ?_
    refine XC.block ?_
    refine XC.seq ?_
    refine XC.reg ?_
    refine XL.mv rfl rfl ?_
    refine XL.bin rfl rfl rfl (bSub (by omega)) ?_
    refine XL.as rfl rfl ?_
    refine XL.nil ?_
    refine XQ.thenN ?_
    refine XC.reg ?_
    refine XL.mv rfl rfl ?_
    refine XL.bin rfl rfl rfl (bAdd (by omega)) ?_
    refine XL.as rfl rfl ?_
    refine XL.nil ?_
    refine XQ.blkN ?_
    refine XQ.again (k + 1) ⟨by omega, .inr (by omega)⟩ (by omega) ⟨?_, ?_, trivial⟩ (fun w h => h)
    · simp only [lk, Nat.beq, cond]; congr 2; omega
    · simp only [lk, Nat.beq, cond]; congr 2
  · refine XC.exit ?_
    refine XQ.thenE ?_
    refine XQ.thenE ?_
    refine XQ.blkE ?_
    refine XQ.thenN ?_
    refine XC.seq ?_
    refine XC.reg ?_
    refine XL.mv rfl rfl ?_
    refine XL.as rfl rfl ?_
    refine XL.nil ?_
    refine XQ.thenN ?_
    refine XC.ret ?_
    exact XQ.ret (.inl rfl) rfl (rC (resT rfl) <| rN) [] (⟨congrArg (Value.int .i64) (parts_at hk.1 hk.2 (by omega)), rfl⟩) (fun w h => h)

def isUsed (ids : List Nat) (n : Nat) : Bool := ids.any fun k => decide ((k : Int) = (n : Int))
def freeN (ids : List Nat) : Nat → Nat
  | 0 => 0
  | n + 1 => if isUsed ids n = true then freeN ids n else freeN ids n + 1
def leastI (ids : List Nat) : Nat → Int
  | 0 => -1
  | n + 1 => if isUsed ids n = true then leastI ids n else if leastI ids n < 0 then (n : Int) else leastI ids n
theorem freeN_le (ids : List Nat) : ∀ n, freeN ids n ≤ n
  | 0 => Nat.le_refl _
  | n + 1 => by rw [freeN]; have := freeN_le ids n; split <;> omega
theorem leastI_range (ids : List Nat) : ∀ n, -1 ≤ leastI ids n ∧ leastI ids n < n
  | 0 => by simp [leastI]
  | n + 1 => by rw [leastI]; have := leastI_range ids n; split; omega; split <;> omega
theorem any_step {ids : List Nat} {k n : Nat} (h : k < ids.length) : ((ids.take (k + 1)).any fun x => decide ((x : Int) = (n : Int))) = (((ids.take k).any fun x => decide ((x : Int) = (n : Int))) || decide (((ids[k]) : Int) = (n : Int))) := by
  rw [List.take_succ_eq_append_getElem h, List.any_append]; simp

theorem coracleref05_Free_fn (b : Nat) (W : RefL) (hs : W.segs ≤ 1000000) (hi : W.ids.length ≤ 1000000) : Does P F_coracleref05_Free [.pointer (some ⟨b, 0, none⟩)] [refC b W] fun v cs => v = .tuple #[.int .i64 (freeN W.ids W.segs : Int), .int .i64 (leastI W.ids W.segs)] ∧ cs = [refC b W] := by
  refine Does.mk (N := 47) fn_coracleref05_Free rfl rfl rfl (fun F => ?_)
  simp only [List.cons_append, List.nil_append]
  refine XC.opn t0 ?_
  rintro ⟨vi, vu⟩
  dsimp only [List.cons_append, List.nil_append]
  refine XC.oneV vi (fun _ => ?_)
  refine XC.oneV vu (fun _ => ?_)
  refine XC.seq ?_
  refine XC.reg ?_
  refine XL.as rfl rfl ?_
  refine XL.as rfl rfl ?_
  refine XL.nil ?_
  refine XQ.thenN ?_
  refine XC.seq ?_
  refine XC.reg ?_
  refine XL.as rfl rfl ?_
  refine XL.as rfl rfl ?_
  refine XL.nil ?_
  refine XQ.thenN ?_
  refine XC.seq ?_
  refine XC.seq ?_
  refine XC.reg ?_
  refine XL.as rfl rfl ?_
  refine XL.nil ?_
  refine XQ.thenN ?_
  refine XC.block ?_
  refine XC.loop (ι := Nat) (fun i => [(0, .pointer (some ⟨b, 0, none⟩)), (4, .int .i64 (freeN W.ids i : Int)), (5, .int .i64 (leastI W.ids i)), (6, .int .i64 (i : Int))]) (fun i => [blk b [.int .i64 (W.segs : Int), vi, vu, .int .i64 (W.seq : Int), .int .i64 (W.boot : Int), .int .i64 (W.serial : Int)] T_coracleref05_Log, sl vi encN W.ids T_int 1, sl vu encN W.used T_int 1, F]) (fun i => i ≤ W.segs) (fun i => W.segs - i) 0 (Nat.zero_le _) ⟨rfl, rfl, rfl, rfl, trivial⟩ (fun w h => h) (fun i hi2 => ?_)
  refine XC.seq ?_
  refine XC.seq ?_
  refine XC.reg ?_
  refine XL.mv rfl rfl ?_
  refine XL.mv rfl rfl ?_
  refine XL.ncP rfl rfl ?_
  refine XL.fa fo_coracleref05_Log_0 rfl rfl ?_
  refine XL.ld o_int rfl (by rfl) rfl ?_
  refine XL.bin rfl rfl rfl (bLss) ?_
  refine XL.nil ?_
  refine XQ.thenN ?_
  refine XC.cond rfl (fun hc0 => ?_) (fun hc0 => ?_)
  · refine XC.skip ?_
    refine XQ.thenN ?_
    refine XC.seq ?_
    refine XC.block ?_
    refine XC.seq ?_
    refine XC.reg ?_
    refine XL.as rfl rfl ?_
    refine XL.nil ?_
    refine XQ.thenN ?_
    refine XC.seq ?_
    refine XC.seq ?_
    refine XC.reg ?_
    refine XL.as rfl rfl ?_
    refine XL.nil ?_
    refine XQ.thenN ?_
    refine XC.block ?_
    refine XC.loop (ι := Nat) (fun k => [(0, .pointer (some ⟨b, 0, none⟩)), (4, .int .i64 (freeN W.ids i : Int)), (5, .int .i64 (leastI W.ids i)), (6, .int .i64 (i : Int)), (7, .bool ((W.ids.take k).any fun x => decide ((x : Int) = (i : Int)))), (8, .int .i64 (k : Int))]) (fun k => [blk b [.int .i64 (W.segs : Int), vi, vu, .int .i64 (W.seq : Int), .int .i64 (W.boot : Int), .int .i64 (W.serial : Int)] T_coracleref05_Log, sl vi encN W.ids T_int 1, sl vu encN W.used T_int 1, F]) (fun k => k ≤ W.ids.length) (fun k => W.ids.length - k) 0 (Nat.zero_le _) ⟨rfl, rfl, rfl, rfl, rfl, rfl, trivial⟩ (fun w h => h) (fun k hk => ?_)
    refine XC.seq ?_
    refine XC.seq ?_
    refine XC.reg ?_
    refine XL.mv rfl rfl ?_
    refine XL.mv rfl rfl ?_
    refine XL.ncP rfl rfl ?_
    refine XL.fa fo_coracleref05_Log_1 rfl rfl ?_
    refine XL.ld o_L_int rfl (by rfl) rfl ?_
    refine XL.lenS e_L_int rfl rfl ?_
    refine XL.bin rfl rfl rfl (bLss) ?_
    refine XL.nil ?_
    refine XQ.thenN ?_
    refine XC.cond rfl (fun hc1 => ?_) (fun hc1 => ?_)
    · have hkl : k < W.ids.length := by omega
      refine XC.skip ?_
      refine XQ.thenN ?_
      refine XC.seq ?_
      refine XC.block ?_
      refine XC.reg ?_
      refine XL.mv rfl rfl ?_
      refine XL.mv rfl rfl ?_
      refine XL.splitB 27 rfl (fun hg27 => ?_) (fun hg27 => ?_)
      · refine XL.no rfl rfl ?_
        refine XL.no rfl rfl ?_
        refine XL.no rfl rfl ?_
        refine XL.no rfl rfl ?_
        refine XL.no rfl rfl ?_
        refine XL.no rfl rfl ?_
        refine XL.no rfl rfl ?_
        refine XL.no rfl rfl ?_
        refine XL.no rfl rfl ?_
        refine XL.pkT rfl rfl rfl ?_
        refine XL.as rfl rfl ?_
        refine XL.nil ?_
        refine XQ.blkN ?_
        refine XQ.thenN ?_
        refine XC.reg ?_
        refine XL.mv rfl rfl ?_
        refine XL.bin rfl rfl rfl (bAdd (by omega)) ?_
        refine XL.as rfl rfl ?_
        refine XL.nil ?_
        refine XQ.again (k + 1) (by omega) (by omega) ⟨rfl, rfl, rfl, rfl, ?_, rfl, trivial⟩ (fun w h => h)
        simp only [lk, Nat.beq, cond]; rw [any_step hkl, hg27]; simp
      · refine XL.mv rfl rfl ?_
        refine XL.ncP rfl rfl ?_
        refine XL.fa fo_coracleref05_Log_1 rfl rfl ?_
        refine XL.ld o_L_int rfl (by rfl) rfl ?_
        refine XL.mv rfl rfl ?_
        refine XL.ixS k e_L_int rfl rfl rfl hkl rfl (fun b33 _ => ?_)
        refine XL.ldS1 o_int rfl hkl rfl rfl ?_
        refine XL.mv rfl rfl ?_
        refine XL.bin rfl rfl rfl (bEqI) ?_
        refine XL.pkF rfl rfl rfl ?_
        refine XL.as rfl rfl ?_
        refine XL.nil ?_
        refine XQ.blkN ?_
        refine XQ.thenN ?_
        refine XC.reg ?_
        refine XL.mv rfl rfl ?_
        refine XL.bin rfl rfl rfl (bAdd (by omega)) ?_
        refine XL.as rfl rfl ?_
        refine XL.nil ?_
        refine XQ.again (k + 1) (by omega) (by omega) ⟨rfl, rfl, rfl, rfl, ?_, rfl, trivial⟩ (fun w h => h)
        simp only [lk, Nat.beq, cond]; rw [any_step hkl, hg27]; simp
    · obtain rfl : k = W.ids.length := by omega
      refine XC.exit ?_
      refine XQ.thenE ?_
      refine XQ.thenE ?_
      refine XQ.blkE ?_
      refine XQ.thenN ?_
      refine XC.seq ?_
      refine XC.reg ?_
      refine XL.mv rfl rfl ?_
      refine XL.notT rfl rfl ?_
      refine XL.nil ?_
      refine XQ.thenN ?_
      refine XC.condB rfl (fun hc2 => ?_) (fun hc2 => ?_)
      · have hus : ¬ isUsed W.ids i = true := by have h := hc2; rw [List.take_of_length_le (Nat.le_refl _)] at h; unfold isUsed; simpa using h
        have hfl := freeN_le W.ids i
        have hlr := leastI_range W.ids i
        refine XC.seq ?_
        refine XC.reg ?_
        refine XL.mv rfl rfl ?_
        refine XL.bin rfl rfl rfl (bAdd (by omega)) ?_
        refine XL.as rfl rfl ?_
        refine XL.nil ?_
        refine XQ.thenN ?_
        refine XC.seq ?_
        refine XC.reg ?_
        refine XL.mv rfl rfl ?_
        refine XL.bin rfl rfl rfl (bLss) ?_
        refine XL.nil ?_
        refine XQ.thenN ?_
        refine XC.cond rfl (fun hc3 => ?_) (fun hc3 => ?_)
        · refine XC.reg ?_
          refine XL.mv rfl rfl ?_
          refine XL.as rfl rfl ?_
          refine XL.nil ?_
          refine XQ.blkN ?_
          refine XQ.thenN ?_
          refine XC.reg ?_
          refine XL.mv rfl rfl ?_
          refine XL.bin rfl rfl rfl (bAdd (by omega)) ?_
          refine XL.as rfl rfl ?_
          refine XL.nil ?_
          refine XQ.again (i + 1) (by omega) (by omega) ⟨rfl, ?_, ?_, rfl, trivial⟩ (fun w h => h)
          · simp only [lk, Nat.beq, cond]; rw [freeN, if_neg hus]; rfl
          · simp only [lk, Nat.beq, cond]; rw [leastI, if_neg hus, if_pos (by omega)]
        · refine XC.skip ?_
          refine XQ.blkN ?_
          refine XQ.thenN ?_
          refine XC.reg ?_
          refine XL.mv rfl rfl ?_
          refine XL.bin rfl rfl rfl (bAdd (by omega)) ?_
          refine XL.as rfl rfl ?_
          refine XL.nil ?_
          refine XQ.again (i + 1) (by omega) (by omega) ⟨rfl, ?_, ?_, rfl, trivial⟩ (fun w h => h)
          · simp only [lk, Nat.beq, cond]; rw [freeN, if_neg hus]; rfl
          · simp only [lk, Nat.beq, cond]; rw [leastI, if_neg hus, if_neg (by omega)]
      · have hus : isUsed W.ids i = true := by have h := hc2; rw [List.take_of_length_le (Nat.le_refl _)] at h; unfold isUsed; simpa using h
        refine XC.skip ?_
        refine XQ.blkN ?_
        refine XQ.thenN ?_
        refine XC.reg ?_
        refine XL.mv rfl rfl ?_
        refine XL.bin rfl rfl rfl (bAdd (by omega)) ?_
        refine XL.as rfl rfl ?_
        refine XL.nil ?_
        refine XQ.again (i + 1) (by omega) (by omega) ⟨rfl, ?_, ?_, rfl, trivial⟩ (fun w h => h)
        · simp only [lk, Nat.beq, cond]; rw [freeN, if_pos hus]
        · simp only [lk, Nat.beq, cond]; rw [leastI, if_pos hus]
  · obtain rfl : i = W.segs := by omega
    refine XC.exit ?_
    refine XQ.thenE ?_
    refine XQ.thenE ?_
    refine XQ.blkE ?_
    refine XQ.thenN ?_
    refine XC.seq ?_
    refine XC.reg ?_
    refine XL.mv rfl rfl ?_
    refine XL.mv rfl rfl ?_
    refine XL.as rfl rfl ?_
    refine XL.as rfl rfl ?_
    refine XL.nil ?_
    refine XQ.thenN ?_
    refine XC.ret ?_
    exact XQ.ret (.inl rfl) rfl (rC (resT rfl) <| rC (resT rfl) <| rN) [refC b W] (⟨rfl, rfl⟩) (fun w h => Sat.shut ⟨vi, vu⟩ h)

/-- The document's Append. -/
def refApp (W : RefL) (s : List UInt8) : RecS × Int × RefL :=
  if 3728 < s.length then (⟨0, 0, []⟩, 2, W)
  else if 16 < W.used.getD (W.ids.length - 1) 0 + (partsZ s.length).toNat then
    if leastI W.ids W.segs < 0 then (⟨0, 0, []⟩, 21, W)
    else (⟨W.seq, (leastI W.ids W.segs).toNat, s⟩, 0, { W with ids := W.ids ++ [(leastI W.ids W.segs).toNat], used := W.used ++ [(partsZ s.length).toNat], seq := W.seq + 1 })
  else (⟨W.seq, W.ids.getD (W.ids.length - 1) 0, s⟩, 0, { W with used := W.used.set (W.ids.length - 1) (W.used.getD (W.ids.length - 1) 0 + (partsZ s.length).toNat), seq := W.seq + 1 })
structure RefOk (W : RefL) : Prop where
  s : W.segs ≤ 64
  n : W.ids.length = W.used.length
  n0 : 0 < W.ids.length
  n64 : W.ids.length ≤ 64
  u : ∀ x ∈ W.used, x ≤ 16
  q : W.seq ≤ 1152921504606846976
  b : W.boot ≤ 1152921504606846976
  i : ∀ x ∈ W.ids, x ≤ 64
theorem getD_at {l : List Nat} {i : Nat} (h : i < l.length) : l.getD i 0 = l[i] := by simp [List.getD_eq_getElem?_getD, List.getElem?_eq_getElem h]

theorem coracleref05_Append_fn (b : Nat) (W : RefL) (s : List UInt8) (hW : RefOk W) (hs : s.length ≤ 1000000000000000) : Does P F_coracleref05_Append [.pointer (some ⟨b, 0, none⟩), S s] [refC b W] fun v cs => v = .tuple #[.agg (encR (refApp W s).1).toArray, .int .i64 (refApp W s).2.1] ∧ cs = [refC b (refApp W s).2.2] := by
  refine Does.mk (N := 93) fn_coracleref05_Append rfl rfl rfl (fun F => ?_)
  simp only [List.cons_append, List.nil_append]
  refine XC.opn t0 ?_
  rintro ⟨vi, vu⟩
  dsimp only [List.cons_append, List.nil_append]
  refine XC.oneV vi (fun _ => ?_)
  refine XC.oneV vu (fun _ => ?_)
  have hn := hW.n
  have h0 := hW.n0
  have h64 := hW.n64
  have hj : W.ids.length - 1 < W.ids.length := by omega
  have hju : W.ids.length - 1 < W.used.length := by omega
  have hu16 := hW.u _ (List.getElem_mem hju)
  have hge := getD_at hju
  have hq := hW.q
  have hsg := hW.s
  have hpg := partsZ_ge s.length
  refine XC.seq ?_
  refine XC.reg ?_
  refine XL.al z_coracleref05_Record rfl (fun b4 => ?_)
  refine XL.as rfl rfl ?_
  refine XL.nil ?_
  refine XQ.thenN ?_
  refine XC.seq ?_
  refine XC.seq ?_
  refine XC.reg ?_
  refine XL.mv rfl rfl ?_
  refine XL.lenT u_string rfl rfl ?_
  refine XL.bin rfl rfl rfl (bGtr) ?_
  refine XL.nil ?_
  refine XQ.thenN ?_
  refine XC.cond rfl (fun hc0 => ?_) (fun hc0 => ?_)
  · refine XC.seq ?_
    refine XC.reg ?_
    refine XL.bd z_coracleref05_Record p_coracleref05_Record rfl rfl ?_
    refine XL.stM g_coracleref05_Record rfl rfl rfl (by rfl) rfl ?_
    refine XL.as rfl rfl ?_
    refine XL.nil ?_
    refine XQ.thenN ?_
    refine XC.ret ?_
    refine XQ.thenR ?_
    exact XQ.ret (.inl rfl) rfl (rC (resN g_coracleref05_Record rfl rfl rfl) <| rC (resT rfl) <| rN) [refC b W] (⟨by unfold refApp; rw [if_pos (by omega)]; rfl, by unfold refApp; rw [if_pos (by omega)]⟩) (fun w h => Sat.shut ⟨vi, vu⟩ (Take.sat (t1.c <| t1.c <| t1.c <| t1.c tn) h))
  · have hp16 : partsZ (s.length : Int) ≤ 16 := by unfold partsZ; omega
    have hof : (((partsZ s.length).toNat : Nat) : Int) = partsZ s.length := by omega
    refine XC.skip ?_
    refine XQ.thenN ?_
    refine XC.seq ?_
    refine XC.reg ?_
    refine XL.mv rfl rfl ?_
    refine XL.lenT u_string rfl rfl ?_
    refine XL.call hb_coracleref05_Parts rfl rfl (coracleref05_Parts_fn s.length hs) (tn) ?_
    rintro _ _ ⟨rfl, rfl⟩
    simp only [List.cons_append, List.nil_append]
    refine XL.as rfl rfl ?_
    refine XL.nil ?_
    refine XQ.thenN ?_
    refine XC.seq ?_
    refine XC.reg ?_
    refine XL.mv rfl rfl ?_
    refine XL.ncP rfl rfl ?_
    refine XL.fa fo_coracleref05_Log_1 rfl rfl ?_
    refine XL.ld o_L_int rfl (by rfl) rfl ?_
    refine XL.lenS e_L_int rfl rfl ?_
    refine XL.bin rfl rfl rfl (bSub (by omega)) (XL.re 22 (u := .int .i64 ((W.ids.length - 1 : Nat) : Int)) rfl (congrArg (Value.int .i64) (by omega)) ?_)
    refine XL.as rfl rfl ?_
    refine XL.nil ?_
    refine XQ.thenN ?_
    refine XC.seq ?_
    refine XC.seq ?_
    refine XC.reg ?_
    refine XL.mv rfl rfl ?_
    refine XL.ncP rfl rfl ?_
    refine XL.fa fo_coracleref05_Log_2 rfl rfl ?_
    refine XL.ld o_L_int rfl (by rfl) rfl ?_
    refine XL.mv rfl rfl ?_
    refine XL.ixS (W.ids.length - 1) e_L_int rfl rfl (by omega) hju rfl (fun b28 _ => ?_)
    refine XL.ldS1 o_int rfl hju rfl rfl ?_
    refine XL.mv rfl rfl ?_
    refine XL.bin rfl rfl rfl (bAdd (by omega)) ?_
    refine XL.bin rfl rfl rfl (bGtr) ?_
    refine XL.nil ?_
    refine XQ.thenN ?_
    refine XC.cond rfl (fun hc1 => ?_) (fun hc1 => ?_)
    · refine XC.seq ?_
      refine XC.perm (t1.c <| t1.c <| t1.c <| t0.c <| t0.c tn) ?_
      refine XC.to (fun w h => (Sat.shut ⟨vi, vu⟩ h : Sat [refC b W, blk b4 [.int .i64 0, .int .i64 0, S []] T_coracleref05_Record, F] w)) ?_
      refine XC.reg ?_
      refine XL.mv rfl rfl ?_
      refine XL.call hb_coracleref05_Free rfl rfl (coracleref05_Free_fn b W (by have := hW.s; omega) (by omega)) (t0.c tn) ?_
      rintro _ _ ⟨rfl, rfl⟩
      simp only [List.cons_append, List.nil_append]
      refine XL.mv rfl rfl ?_
      refine XL.ex rfl rfl rfl ?_
      refine XL.ex rfl rfl rfl ?_
      refine XL.as rfl rfl ?_
      refine XL.as rfl rfl ?_
      refine XL.nil ?_
      refine XQ.thenN ?_
      refine XC.seq ?_
      refine XC.seq ?_
      refine XC.reg ?_
      refine XL.mv rfl rfl ?_
      refine XL.bin rfl rfl rfl (bLss) ?_
      refine XL.nil ?_
      refine XQ.thenN ?_
      refine XC.cond rfl (fun hc2 => ?_) (fun hc2 => ?_)
      · refine XC.seq ?_
        refine XC.reg ?_
        refine XL.bd z_coracleref05_Record p_coracleref05_Record rfl rfl ?_
        refine XL.stM g_coracleref05_Record rfl rfl rfl (by rfl) rfl ?_
        refine XL.as rfl rfl ?_
        refine XL.nil ?_
        refine XQ.thenN ?_
        refine XC.ret ?_
        refine XQ.thenR ?_
        refine XQ.thenR ?_
        exact XQ.ret (.inl rfl) rfl (rC (resN g_coracleref05_Record rfl rfl rfl) <| rC (resT rfl) <| rN) [refC b W] (⟨by unfold refApp; rw [if_neg (by omega), if_pos (by omega), if_pos hc2]; rfl, by unfold refApp; rw [if_neg (by omega), if_pos (by omega), if_pos hc2]⟩) (fun w h => Take.sat (t0.c <| t1.c tn) h)
      · have hlr := leastI_range W.ids W.segs
        obtain ⟨m, hm⟩ : ∃ m : Nat, m = (partsZ s.length).toNat := ⟨_, rfl⟩
        obtain ⟨q, hq2⟩ : ∃ q : Nat, (leastI W.ids W.segs).toNat = q := ⟨_, rfl⟩
        refine XC.skip ?_
        refine XQ.thenN ?_
        refine XC.seq ?_
        refine XC.opn t0 ?_
        rintro ⟨vi, vu⟩
        dsimp only [List.cons_append, List.nil_append]
        refine XC.oneV vi (fun _ => ?_)
        refine XC.oneV vu (fun _ => ?_)
        refine XC.reg ?_
        refine XL.mv rfl rfl ?_
        refine XL.mv rfl rfl ?_
        refine XL.ncP rfl rfl ?_
        refine XL.fa fo_coracleref05_Log_1 rfl rfl ?_
        refine XL.ld o_L_int rfl (by rfl) rfl ?_
        refine XL.mv rfl rfl ?_
        refine XL.re 46 (u := .int .i64 (q : Int)) rfl (congrArg (Value.int .i64) (by omega)) ?_
        refine XL.bs (enc := encN) [q] e_L_int z_int rfl rfl rfl (by intro x hx; rfl) rfl (fun v47 _ => ?_)
        refine XL.app [q] e_L_int e_L_int z_int rfl rfl rfl rfl (fun x _ => encN_one x) (by first | omega | (simp [numB_length] <;> omega)) rfl (fun v48 _ => ?_)
        refine XL.ncP rfl rfl ?_
        refine XL.fa fo_coracleref05_Log_1 rfl rfl ?_
        refine XL.st o_L_int rfl rfl rfl ?_
        refine XL.nil ?_
        refine XQ.thenN ?_
        refine XC.seq ?_
        refine XC.reg ?_
        refine XL.mv rfl rfl ?_
        refine XL.mv rfl rfl ?_
        refine XL.ncP rfl rfl ?_
        refine XL.fa fo_coracleref05_Log_2 rfl rfl ?_
        refine XL.ld o_L_int rfl (by rfl) rfl ?_
        refine XL.bs (enc := encN) [0] e_L_int z_int rfl rfl rfl (by intro x hx; rfl) rfl (fun v56 _ => ?_)
        refine XL.app [0] e_L_int e_L_int z_int rfl rfl rfl rfl (fun x _ => encN_one x) (by first | omega | (simp [numB_length] <;> omega)) rfl (fun v57 _ => ?_)
        refine XL.ncP rfl rfl ?_
        refine XL.fa fo_coracleref05_Log_2 rfl rfl ?_
        refine XL.st o_L_int rfl rfl rfl ?_
        refine XL.nil ?_
        refine XQ.thenN ?_
        refine XC.reg ?_
        refine XL.mv rfl rfl ?_
        refine XL.bin rfl rfl rfl (bAdd (by omega)) (XL.re 61 (u := .int .i64 (W.ids.length : Int)) rfl (congrArg (Value.int .i64) (by omega)) ?_)
        refine XL.as rfl rfl ?_
        refine XL.nil ?_
        refine XQ.thenN ?_
        refine XC.seq ?_
        refine XC.reg ?_
        refine XL.mv rfl rfl ?_
        refine XL.ncP rfl rfl ?_
        refine XL.fa fo_coracleref05_Log_2 rfl rfl ?_
        refine XL.ld o_L_int rfl (by rfl) rfl ?_
        refine XL.mv rfl rfl ?_
        refine XL.ixS W.ids.length e_L_int rfl rfl rfl (by first | exact hju | (simp <;> omega)) rfl (fun b67 _ => ?_)
        refine XL.ldS1 o_int rfl (by first | exact hju | (simp <;> omega)) rfl rfl ?_
        refine XL.mv rfl rfl ?_
        refine XL.bin rfl rfl rfl (bAdd (by simp [hn]; omega)) (XL.re 70 (u := .int .i64 (m : Int)) rfl (congrArg (Value.int .i64) (by simp [hn]; omega)) ?_)
        refine XL.ixB W.ids.length e_L_int rfl rfl rfl (by first | exact hju | (simp <;> omega)) rfl ?_
        refine XL.stS1 m o_int rfl rfl (by first | exact hju | (simp <;> omega)) rfl rfl ?_
        refine XL.nil ?_
        refine XQ.thenN ?_
        refine XC.seq ?_
        refine XC.reg ?_
        refine XL.mv rfl rfl ?_
        refine XL.ncP rfl rfl ?_
        refine XL.fa fo_coracleref05_Log_3 rfl rfl ?_
        refine XL.ld o_int rfl (by rfl) rfl ?_
        refine XL.bin rfl rfl rfl (bAdd (by omega)) ?_
        refine XL.ncP rfl rfl ?_
        refine XL.fa fo_coracleref05_Log_3 rfl rfl ?_
        refine XL.st o_int rfl rfl rfl ?_
        refine XL.nil ?_
        refine XQ.thenN ?_
        refine XC.seq ?_
        refine XC.isAt v48 W.ids.length (by simp) (fun bi _ => ?_)
        refine XC.drw (.q 0 <| .q 1 <| .q 2 <| .q 3 <| .q 4 <| .q 5 <| .q 6 <| .q 7 <| .q 8 <| .q 9 <| .q 10 <| .q 11 <| .q 12 <| .q 13 <| .e 14 <| .e 15 <| .done) mixed (by kernel_rfl) rfl ?_
        refine JP.qq rfl rfl rfl (XL.mv rfl rfl XL.qd) ?_
        refine JP.qq rfl rfl rfl (XL.ncP rfl rfl XL.qd) ?_
        refine JP.qq rfl rfl rfl (XL.fa fo_coracleref05_Log_3 rfl rfl XL.qd) ?_
        refine JP.qq rfl rfl rfl (XL.ld o_int rfl (by rfl) rfl XL.qd) ?_
        refine JP.qq rfl rfl rfl (XL.bin rfl rfl rfl (bSub (by omega)) XL.qd) ?_
        refine JP.qq rfl rfl rfl (XL.mv rfl rfl XL.qd) ?_
        refine JP.qq rfl rfl rfl (XL.ncP rfl rfl XL.qd) ?_
        refine JP.qq rfl rfl rfl (XL.fa fo_coracleref05_Log_1 rfl rfl XL.qd) ?_
        refine JP.qq rfl rfl rfl (XL.ld o_L_int rfl (by rfl) rfl XL.qd) ?_
        refine JP.qq rfl rfl rfl (XL.mv rfl rfl XL.qd) ?_
        refine JP.qq rfl rfl rfl (XL.ixB W.ids.length e_L_int rfl rfl rfl (by first | exact hj | (simp <;> omega)) rfl XL.qd) ?_
        refine JP.qq rfl rfl rfl (XL.ldS1 o_int rfl (by first | exact hj | (simp <;> omega)) rfl rfl XL.qd) ?_
        refine JP.qq rfl rfl rfl (XL.mv rfl rfl XL.qd) ?_
        refine JP.re 83 (u := .int .i64 (W.seq : Int)) rfl (congrArg (Value.int .i64) (by omega)) ?_
        refine JP.qq rfl rfl rfl (XL.bd z_coracleref05_Record p_coracleref05_Record rfl rfl XL.qd) ?_
        refine JP.ee rfl ?_
        refine XL.stM g_coracleref05_Record rfl rfl rfl (by rfl) rfl ?_
        refine XL.edn ?_
        refine JP.ee rfl ?_
        refine XL.as rfl rfl ?_
        refine XL.ed ?_
        refine JP.done ?_
        refine XQ.thenN ?_
        refine XC.ret ?_
        exact XQ.ret (.inl rfl) rfl (rC (resN g_coracleref05_Record rfl rfl rfl) <| rC (resT rfl) <| rN) [refC b { W with ids := W.ids ++ [q], used := W.used ++ [m], seq := W.seq + 1 }] (⟨by unfold refApp; rw [if_neg (by omega), if_pos (by omega), if_neg hc2, hq2]; simp [tupleOf], by unfold refApp; rw [if_neg (by omega), if_pos (by omega), if_neg hc2, hm, hq2]⟩) (fun w h => by (have h3 := Take.sat (t4.c <| t2.c <| t0.c <| t3.c tn) h); (have e : (W.used ++ [0]).set W.ids.length m = W.used ++ [m] := by rw [hW.n, List.set_append_right _ _ (Nat.le_refl _)]; simp); rw [e] at h3; exact Sat.shut ⟨v48, v57⟩ h3)
    · obtain ⟨m, hm⟩ : ∃ m : Nat, m = W.used.getD (W.ids.length - 1) 0 + (partsZ s.length).toNat := ⟨_, rfl⟩
      refine XC.skip ?_
      refine XQ.thenN ?_
      refine XC.seq ?_
      refine XC.reg ?_
      refine XL.mv rfl rfl ?_
      refine XL.ncP rfl rfl ?_
      refine XL.fa fo_coracleref05_Log_2 rfl rfl ?_
      refine XL.ld o_L_int rfl (by rfl) rfl ?_
      refine XL.mv rfl rfl ?_
      refine XL.ixS (W.ids.length - 1) e_L_int rfl rfl rfl (by first | exact hju | (simp <;> omega)) rfl (fun b67 _ => ?_)
      refine XL.ldS1 o_int rfl (by first | exact hju | (simp <;> omega)) rfl rfl ?_
      refine XL.mv rfl rfl ?_
      refine XL.bin rfl rfl rfl (bAdd (by omega)) (XL.re 70 (u := .int .i64 (m : Int)) rfl (congrArg (Value.int .i64) (by rw [hm, hge]; omega)) ?_)
      refine XL.ixB (W.ids.length - 1) e_L_int rfl rfl rfl (by first | exact hju | (simp <;> omega)) rfl ?_
      refine XL.stS1 m o_int rfl rfl (by first | exact hju | (simp <;> omega)) rfl rfl ?_
      refine XL.nil ?_
      refine XQ.thenN ?_
      refine XC.seq ?_
      refine XC.reg ?_
      refine XL.mv rfl rfl ?_
      refine XL.ncP rfl rfl ?_
      refine XL.fa fo_coracleref05_Log_3 rfl rfl ?_
      refine XL.ld o_int rfl (by rfl) rfl ?_
      refine XL.bin rfl rfl rfl (bAdd (by omega)) ?_
      refine XL.ncP rfl rfl ?_
      refine XL.fa fo_coracleref05_Log_3 rfl rfl ?_
      refine XL.st o_int rfl rfl rfl ?_
      refine XL.nil ?_
      refine XQ.thenN ?_
      refine XC.seq ?_
      refine XC.isAt vi (W.ids.length - 1) hj (fun bi _ => ?_)
      refine XC.drw (.q 0 <| .q 1 <| .q 2 <| .q 3 <| .q 4 <| .q 5 <| .q 6 <| .q 7 <| .q 8 <| .q 9 <| .q 10 <| .q 11 <| .q 12 <| .q 13 <| .e 14 <| .e 15 <| .done) mixed (by kernel_rfl) rfl ?_
      refine JP.qq rfl rfl rfl (XL.mv rfl rfl XL.qd) ?_
      refine JP.qq rfl rfl rfl (XL.ncP rfl rfl XL.qd) ?_
      refine JP.qq rfl rfl rfl (XL.fa fo_coracleref05_Log_3 rfl rfl XL.qd) ?_
      refine JP.qq rfl rfl rfl (XL.ld o_int rfl (by rfl) rfl XL.qd) ?_
      refine JP.qq rfl rfl rfl (XL.bin rfl rfl rfl (bSub (by omega)) XL.qd) ?_
      refine JP.qq rfl rfl rfl (XL.mv rfl rfl XL.qd) ?_
      refine JP.qq rfl rfl rfl (XL.ncP rfl rfl XL.qd) ?_
      refine JP.qq rfl rfl rfl (XL.fa fo_coracleref05_Log_1 rfl rfl XL.qd) ?_
      refine JP.qq rfl rfl rfl (XL.ld o_L_int rfl (by rfl) rfl XL.qd) ?_
      refine JP.qq rfl rfl rfl (XL.mv rfl rfl XL.qd) ?_
      refine JP.qq rfl rfl rfl (XL.ixB (W.ids.length - 1) e_L_int rfl rfl rfl (by first | exact hj | (simp <;> omega)) rfl XL.qd) ?_
      refine JP.qq rfl rfl rfl (XL.ldS1 o_int rfl (by first | exact hj | (simp <;> omega)) rfl rfl XL.qd) ?_
      refine JP.qq rfl rfl rfl (XL.mv rfl rfl XL.qd) ?_
      refine JP.re 83 (u := .int .i64 (W.seq : Int)) rfl (congrArg (Value.int .i64) (by omega)) ?_
      refine JP.qq rfl rfl rfl (XL.bd z_coracleref05_Record p_coracleref05_Record rfl rfl XL.qd) ?_
      refine JP.ee rfl ?_
      refine XL.stM g_coracleref05_Record rfl rfl rfl (by rfl) rfl ?_
      refine XL.edn ?_
      refine JP.ee rfl ?_
      refine XL.as rfl rfl ?_
      refine XL.ed ?_
      refine JP.done ?_
      refine XQ.thenN ?_
      refine XC.ret ?_
      exact XQ.ret (.inl rfl) rfl (rC (resN g_coracleref05_Record rfl rfl rfl) <| rC (resT rfl) <| rN) [refC b { W with used := W.used.set (W.ids.length - 1) m, seq := W.seq + 1 }] (⟨by unfold refApp; rw [if_neg (by omega), if_neg (by omega), getD_at hj]; rfl, by unfold refApp; rw [if_neg (by omega), if_neg (by omega), hm]⟩) (fun w h => Sat.shut ⟨vi, vu⟩ (Take.sat (t1.c <| t1.c <| t1.c <| t1.c tn) h))
end Go.Proofs.YthlfbndanknnmaaDoor
