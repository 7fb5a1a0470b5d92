/-
  Package seglog, the lower half: numbers, checkpoints, parts. Printed by mk.py out of spec_k05.py.
-/
import Derived.Test.YthlfbndanknnmaaDoorSxKbl
import Derived.Test.YthlfbndanknnmaaDoorSxK04
namespace Go.Proofs.YthlfbndanknnmaaDoor
open Go Go.Sx

/-! ### Numbers in bytes -/

/-- A number's bytes, the highest first. -/
def numB (n size : Nat) : List UInt8 := (List.range size).map fun i => UInt8.ofNat (n / 2 ^ (8 * (size - 1 - i)))
theorem numB_length (n size : Nat) : (numB n size).length = size := by simp [numB]
def numC (n size i : Nat) : List Value := (List.range 8).map fun j => if j < i then .int .u8 (((numB n size).getD j 0).toNat : Int) else .int .u8 0
theorem numC_length (n size i : Nat) : (numC n size i).length = 8 := by simp [numC]
theorem numC_set (n size i : Nat) (hi : i < 8) : (numC n size i).set (0 + i * 1) (.int .u8 (((numB n size).getD i 0).toNat : Int)) = numC n size (i + 1) := by
  apply List.ext_getElem
  · simp [numC]
  · intro k h1 h2
    simp only [Nat.zero_add, Nat.mul_one, List.getElem_set, numC, List.getElem_map, List.getElem_range]
    split
    · rename_i h; subst h; simp
    · split
      · rw [if_pos (by omega)]
      · rw [if_neg (by omega)]
theorem numC_take (n size : Nat) (hs : size ≤ 8) : ((numC n size size).drop 0).take size = bytesV (numB n size) := by
  apply List.ext_getElem
  · simp [numC, numB_length]; omega
  · intro k h1 h2
    have hk : k < size := by simpa [numB_length] using h2
    simp [numC, bytesV, List.getElem?_eq_getElem, numB_length, hk]
theorem numB_byte (n size i : Nat) (h : i < size) (hs : size ≤ 8) : IntKind.u8.wrap ((n : Int).fdiv (2 ^ (min ((8 * ((size : Int) - 1 - (i : Int)))).toNat IntKind.i64.bits))) = (((numB n size).getD i 0).toNat : Int) := by
  have e1 : min ((8 * ((size : Int) - 1 - (i : Int)))).toNat IntKind.i64.bits = 8 * (size - 1 - i) := by
    show min _ 64 = _
    omega
  rw [e1, numB, List.getD_eq_getElem?_getD, List.getElem?_eq_getElem (by simpa using h)]
  simp only [List.getElem_map, List.getElem_range, Option.getD_some]
  rw [Int.fdiv_eq_ediv_of_nonneg _ (Int.le_of_lt (Int.pow_pos (by omega)))]
  have : ((n : Int) / 2 ^ (8 * (size - 1 - i))) = ((n / 2 ^ (8 * (size - 1 - i)) : Nat) : Int) := by push_cast; rfl
  rw [this]
  generalize n / 2 ^ (8 * (size - 1 - i)) = m
  have hw : IntKind.u8.wrap (m : Int) = (m : Int) % 256 := by simp [IntKind.wrap, IntKind.signed, IntKind.bits]
  rw [hw, UInt8.toNat_ofNat']
  omega

theorem seglog_number_fn (n size : Nat) (hn : n ≤ 9223372036854775807) (hs : size ≤ 8) : Does P F_seglog_number [.int .i64 (n : Int), .int .i64 (size : Int)] [] fun v cs => v = S (numB n size) ∧ cs = [] := by
  refine Does.mk (N := 25) fn_seglog_number rfl rfl rfl (fun F => ?_)
  simp only [List.cons_append, List.nil_append]
  refine XC.seq ?_
  refine XC.reg ?_
  refine XL.as rfl rfl ?_
  refine XL.nil ?_
  refine XQ.thenN ?_
  refine XC.seq ?_
  refine XC.reg ?_
  refine XL.al z_A8_uint8 rfl (fun b5 => ?_)
  refine XL.nil ?_
  refine XQ.thenN ?_
  refine XC.seq ?_
  refine XC.seq ?_
  refine XC.reg ?_
  refine XL.mv rfl rfl ?_
  refine XL.mv rfl rfl ?_
  refine XL.nil ?_
  refine XQ.thenN ?_
  refine XC.block ?_
  refine XC.loop (ι := Nat) (fun i => [(0, .int .i64 (n : Int)), (1, .int .i64 (size : Int)), (5, .pointer (some ⟨b5, 0, none⟩)), (7, .int .i64 (size : Int)), (8, .int .i64 (i : Int))]) (fun i => [blk b5 (numC n size i) T_A8_uint8, F])
    (fun i => i ≤ size) (fun i => size - i) 0 (Nat.zero_le _) ⟨rfl, rfl, rfl, rfl, rfl, trivial⟩ (fun w h => h) (fun i hi => ?_)
  refine XC.seq ?_
  refine XC.reg ?_
  refine XL.bin rfl rfl rfl (bLss) ?_
  refine XL.nil ?_
  refine XQ.thenN ?_
  refine XC.seq ?_
  refine XC.cond rfl (fun hc0 => ?_) (fun hc0 => ?_)
  · have hlt : i < size := by omega
    refine XC.skip ?_
    refine XQ.thenN ?_
    refine XC.seq ?_
    refine XC.block ?_
    refine XC.seq ?_
    refine XC.reg ?_
    refine XL.mv rfl rfl ?_
    refine XL.as rfl rfl ?_
    refine XL.nil ?_
    refine XQ.thenN ?_
    refine XC.reg ?_
    refine XL.mv rfl rfl ?_
    refine XL.mv rfl rfl ?_
    refine XL.mv rfl rfl ?_
    refine XL.bin rfl rfl rfl (bSub (by omega)) ?_
    refine XL.mv rfl rfl ?_
    refine XL.bin rfl rfl rfl (bSub (by omega)) ?_
    refine XL.bin rfl rfl rfl (bMul (by omega)) ?_
    refine XL.bin rfl rfl rfl (bShr (by omega)) ?_
    refine XL.cvI u_int u_uint8 rfl (numB_byte n size i hlt hs) rfl ?_
    refine XL.ixA i a_A8_uint8 rfl rfl rfl (by omega) rfl ?_
    refine XL.stL o_uint8 rfl rfl (by rw [numC_length]; omega) rfl ?_
    refine XL.nil ?_
    refine XQ.blkN ?_
    refine XQ.thenN ?_
    refine XC.reg ?_
    refine XL.bin rfl rfl rfl (bAdd (by omega)) ?_
    refine XL.mv rfl rfl ?_
    refine XL.nil ?_
    exact XQ.again (i + 1) (by omega) (by omega) ⟨rfl, rfl, rfl, rfl, rfl, trivial⟩ (fun w h => by rw [numC_set n size i (by omega)] at h; exact h)
  · obtain rfl : i = size := by omega
    refine XC.exit ?_
    refine XQ.thenE ?_
    refine XQ.thenE ?_
    refine XQ.blkE ?_
    refine XQ.thenN ?_
    refine XC.seq ?_
    refine XC.reg ?_
    refine XL.mv rfl rfl ?_
    refine XL.slA i a_A8_uint8 rfl rfl rfl (by omega) rfl ?_
    refine XL.cvS (numB n i) u_L_uint8 u_uint8 u_string rfl (numC_take n i hs) (numB_length _ _) rfl ?_
    refine XL.as rfl rfl ?_
    refine XL.nil ?_
    refine XQ.thenN ?_
    refine XC.ret ?_
    exact XQ.ret (.inl rfl) rfl (rC (resT rfl) <| rN) [] (⟨rfl, rfl⟩) (fun w h => Sat.tail h)

/-- The number of bytes, as far as it is one. -/
def val (s : List UInt8) : Nat := s.foldl (fun n b => n * 256 + b.toNat) 0
theorem val_take (s : List UInt8) (i : Nat) (h : i < s.length) : val (s.take (i + 1)) = val (s.take i) * 256 + (s[i]).toNat := by
  unfold val
  rw [List.take_succ_eq_append_getElem h, List.foldl_append]; rfl
theorem wrap_def (a : Int) : IntKind.i64.wrap a = if a % 18446744073709551616 ≥ 9223372036854775808 then a % 18446744073709551616 - 18446744073709551616 else a % 18446744073709551616 := by
  simp [IntKind.wrap, IntKind.signed, IntKind.bits]
theorem wrap_mod (a : Int) : (IntKind.i64.wrap a) % 18446744073709551616 = a % 18446744073709551616 := by
  rw [wrap_def]; split <;> omega
theorem wrap_congr {a b : Int} (h : a % 18446744073709551616 = b % 18446744073709551616) : IntKind.i64.wrap a = IntKind.i64.wrap b := by
  rw [wrap_def, wrap_def, h]
theorem val_step (v : Nat) (b : Nat) (hb : b < 256) : IntKind.i64.wrap (((BitVec.ofInt IntKind.i64.bits (IntKind.i64.wrap (IntKind.i64.wrap (v : Int) * 2 ^ (min ((8 : Int)).toNat IntKind.i64.bits)))) ||| BitVec.ofInt IntKind.i64.bits (b : Int)).toNat : Int) = IntKind.i64.wrap ((v * 256 + b : Nat) : Int) := by
  have e1 : (2 : Int) ^ (min ((8 : Int)).toNat IntKind.i64.bits) = 256 := rfl
  rw [e1]
  have e2 : (BitVec.ofInt IntKind.i64.bits (IntKind.i64.wrap (IntKind.i64.wrap (v : Int) * 256))).toNat = (v % 72057594037927936) <<< 8 := by
    rw [BitVec.toNat_ofInt]
    show ((_ : Int) % (18446744073709551616 : Nat)).toNat = _
    have := wrap_mod (IntKind.i64.wrap (v : Int) * 256)
    have h2 := wrap_mod (v : Int)
    rw [Nat.shiftLeft_eq]
    omega
  have e3 : (BitVec.ofInt IntKind.i64.bits (b : Int)).toNat = b := by
    rw [BitVec.toNat_ofInt]
    show ((_ : Int) % (18446744073709551616 : Nat)).toNat = _
    omega
  rw [BitVec.toNat_or, e2, e3, ← Nat.shiftLeft_add_eq_or_of_lt hb, Nat.shiftLeft_eq]
  exact wrap_congr (by omega)

theorem seglog_taken_fn (s : List UInt8) (hs : s.length ≤ 1000000) : Does P F_seglog_taken [S s] [] fun v cs => v = .int .i64 (IntKind.i64.wrap (val s : Int)) ∧ cs = [] := by
  refine Does.mk (N := 19) fn_seglog_taken rfl rfl rfl (fun F => ?_)
  simp only [List.cons_append, List.nil_append]
  refine XC.seq ?_
  refine XC.reg ?_
  refine XL.as rfl rfl ?_
  refine XL.nil ?_
  refine XQ.thenN ?_
  refine XC.seq ?_
  refine XC.reg ?_
  refine XL.as rfl rfl ?_
  refine XL.nil ?_
  refine XQ.thenN ?_
  refine XC.seq ?_
  refine XC.seq ?_
  refine XC.reg ?_
  refine XL.mv rfl rfl ?_
  refine XL.lenT u_string rfl rfl ?_
  refine XL.mv rfl rfl ?_
  refine XL.nil ?_
  refine XQ.thenN ?_
  refine XC.block ?_
  refine XC.loop (ι := Nat) (fun i => [(0, S s), (3, .int .i64 (IntKind.i64.wrap (val (s.take i) : Int))), (6, .int .i64 (s.length : Int)), (7, .int .i64 (i : Int))]) (fun i => [F])
    (fun i => i ≤ s.length) (fun i => s.length - i) 0 (Nat.zero_le _) ⟨rfl, rfl, rfl, rfl, trivial⟩ (fun w h => h) (fun i hi => ?_)
  refine XC.seq ?_
  refine XC.reg ?_
  refine XL.bin rfl rfl rfl (bLss) ?_
  refine XL.nil ?_
  refine XQ.thenN ?_
  refine XC.seq ?_
  refine XC.cond rfl (fun hc0 => ?_) (fun hc0 => ?_)
  · have hlt : i < s.length := by omega
    refine XC.skip ?_
    refine XQ.thenN ?_
    refine XC.seq ?_
    refine XC.block ?_
    refine XC.seq ?_
    refine XC.reg ?_
    refine XL.mv rfl rfl ?_
    refine XL.as rfl rfl ?_
    refine XL.nil ?_
    refine XQ.thenN ?_
    refine XC.reg ?_
    refine XL.mv rfl rfl ?_
    refine XL.bin rfl rfl rfl (bShl (by omega)) ?_
    refine XL.mv rfl rfl ?_
    refine XL.mv rfl rfl ?_
    refine XL.ixT i u_string rfl rfl rfl hlt rfl ?_
    refine XL.cvI u_uint8 u_int rfl (IntWalk.i64_in _ (by have := byt_range s i; omega)) rfl ?_
    refine XL.bin rfl rfl rfl (bOrK) ?_
    refine XL.as rfl rfl ?_
    refine XL.re 3 (u := .int .i64 (IntKind.i64.wrap (val (s.take (i + 1)) : Int))) rfl (congrArg (Value.int .i64) (by rw [val_take s i hlt]; have h1 := val_step (val (s.take i)) (s[i]).toNat (UInt8.toNat_lt _); have h2 : byt s i = ((s[i]).toNat : Int) := (by simp [byt, List.getElem?_eq_getElem hlt]); rw [h2]; exact h1)) ?_
    refine XL.nil ?_
    refine XQ.blkN ?_
    refine XQ.thenN ?_
    refine XC.reg ?_
    refine XL.bin rfl rfl rfl (bAdd (by omega)) ?_
    refine XL.mv rfl rfl ?_
    refine XL.nil ?_
    exact XQ.again (i + 1) (by omega) (by omega) ⟨rfl, rfl, rfl, rfl, trivial⟩ (fun w h => h)
  · obtain rfl : i = s.length := by omega
    refine XC.exit ?_
    refine XQ.thenE ?_
    refine XQ.thenE ?_
    refine XQ.blkE ?_
    refine XQ.thenN ?_
    refine XC.seq ?_
    refine XC.reg ?_
    refine XL.mv rfl rfl ?_
    refine XL.as rfl rfl ?_
    refine XL.nil ?_
    refine XQ.thenN ?_
    refine XC.ret ?_
    exact XQ.ret (.inl rfl) rfl (rC (resT rfl) <| rN) [] (⟨by rw [List.take_of_length_le (Nat.le_refl _)]; rfl, rfl⟩) (fun w h => h)

def fitsB (l : List Int) : Bool := l.all fun n => decide (0 ≤ n) && decide (n ≤ 1152921504606846976)
theorem fitsB_no {l : List Int} {i : Nat} (h : i < l.length) (hn : l[i] < 0 ∨ 1152921504606846976 < l[i]) : fitsB l = false := by
  simp only [fitsB, List.all_eq_false, Bool.and_eq_true, decide_eq_true_eq]
  exact ⟨l[i], List.getElem_mem h, by omega⟩
theorem fitsB_go {l : List Int} {i : Nat} (h : i < l.length) (hn : ¬ (l[i] < 0 ∨ 1152921504606846976 < l[i])) (hi : fitsB (l.take i) = true) : fitsB (l.take (i + 1)) = true := by
  rw [List.take_succ_eq_append_getElem h]
  simp only [fitsB, List.all_append, Bool.and_eq_true, List.all_cons, List.all_nil, decide_eq_true_eq] at hi ⊢
  exact ⟨hi, by omega, trivial⟩

theorem seglog_fits_fn (v : Value) (l : List Int) (hl : l.length ≤ 1000000) : Does P F_seglog_fits [v] [sl v encI l T_int 1] fun u cs => u = .bool (fitsB l) ∧ cs = [sl v encI l T_int 1] := by
  refine Does.mk (N := 18) fn_seglog_fits rfl rfl rfl (fun F => ?_)
  simp only [List.cons_append, List.nil_append]
  refine XC.seq ?_
  refine XC.reg ?_
  refine XL.as rfl rfl ?_
  refine XL.nil ?_
  refine XQ.thenN ?_
  refine XC.seq ?_
  refine XC.seq ?_
  refine XC.reg ?_
  refine XL.mv rfl rfl ?_
  refine XL.lenS e_L_int rfl rfl ?_
  refine XL.mv rfl rfl ?_
  refine XL.nil ?_
  refine XQ.thenN ?_
  refine XC.block ?_
  refine XC.loop (ι := Nat) (fun i => [(5, v), (6, .int .i64 (l.length : Int)), (7, .int .i64 (i : Int))]) (fun i => [sl v encI l T_int 1, F])
    (fun i => i ≤ l.length ∧ fitsB (l.take i) = true) (fun i => l.length - i) 0 ⟨Nat.zero_le _, rfl⟩ ⟨rfl, rfl, rfl, trivial⟩ (fun w h => h) (fun i hi => ?_)
  refine XC.seq ?_
  refine XC.reg ?_
  refine XL.bin rfl rfl rfl (bLss) ?_
  refine XL.nil ?_
  refine XQ.thenN ?_
  refine XC.seq ?_
  refine XC.cond rfl (fun hc0 => ?_) (fun hc0 => ?_)
  · have hlt : i < l.length := by omega
    refine XC.skip ?_
    refine XQ.thenN ?_
    refine XC.seq ?_
    refine XC.block ?_
    refine XC.seq ?_
    refine XC.reg ?_
    refine XL.ixS i e_L_int rfl rfl rfl hlt rfl (fun b9 _ => ?_)
    refine XL.ldS1 o_int rfl hlt rfl rfl ?_
    refine XL.as rfl rfl ?_
    refine XL.nil ?_
    refine XQ.thenN ?_
    refine XC.seq ?_
    refine XC.reg ?_
    refine XL.mv rfl rfl ?_
    refine XL.bin rfl rfl rfl (bLss) ?_
    refine XL.mv rfl rfl ?_
    refine XL.split 13 rfl (fun hg13 => ?_) (fun hg13 => ?_)
    · refine XL.no rfl rfl ?_
      refine XL.no rfl rfl ?_
      refine XL.pkT rfl rfl rfl ?_
      refine XL.nil ?_
      refine XQ.thenN ?_
      refine XC.condT rfl ?_
      refine XC.seq ?_
      refine XC.reg ?_
      refine XL.as rfl rfl ?_
      refine XL.nil ?_
      refine XQ.thenN ?_
      refine XC.ret ?_
      refine XQ.blkR ?_
      refine XQ.thenR ?_
      refine XQ.thenR ?_
      refine XQ.blkR ?_
      refine XQ.thenR ?_
      exact XQ.ret (.inl rfl) rfl (rC (resT rfl) <| rN) [sl v encI l T_int 1] (⟨by first | (rw [fitsB_no hlt (by omega)]; rfl) | (have := hi.2; rw [List.take_of_length_le (Nat.le_refl _)] at this; rw [this]; rfl), rfl⟩) (fun w h => h)
    · refine XL.mv rfl rfl ?_
      refine XL.bin rfl rfl rfl (bGtr) ?_
      refine XL.pkF rfl rfl rfl ?_
      refine XL.nil ?_
      refine XQ.thenN ?_
      refine XC.cond rfl (fun hc1 => ?_) (fun hc1 => ?_)
      · refine XC.seq ?_
        refine XC.reg ?_
        refine XL.as rfl rfl ?_
        refine XL.nil ?_
        refine XQ.thenN ?_
        refine XC.ret ?_
        refine XQ.blkR ?_
        refine XQ.thenR ?_
        refine XQ.thenR ?_
        refine XQ.blkR ?_
        refine XQ.thenR ?_
        exact XQ.ret (.inl rfl) rfl (rC (resT rfl) <| rN) [sl v encI l T_int 1] (⟨by first | (rw [fitsB_no hlt (by omega)]; rfl) | (have := hi.2; rw [List.take_of_length_le (Nat.le_refl _)] at this; rw [this]; rfl), rfl⟩) (fun w h => h)
      · refine XC.skip ?_
        refine XQ.blkN ?_
        refine XQ.thenN ?_
        refine XC.reg ?_
        refine XL.bin rfl rfl rfl (bAdd (by omega)) ?_
        refine XL.mv rfl rfl ?_
        refine XL.nil ?_
        exact XQ.again (i + 1) ⟨by omega, fitsB_go hlt (by omega) hi.2⟩ (by omega) ⟨rfl, rfl, rfl, trivial⟩ (fun w h => h)
  · obtain rfl : i = l.length := by omega
    refine XC.exit ?_
    refine XQ.thenE ?_
    refine XQ.thenE ?_
    refine XQ.blkE ?_
    refine XQ.thenN ?_
    refine XC.seq ?_
    refine XC.reg ?_
    refine XL.as rfl rfl ?_
    refine XL.nil ?_
    refine XQ.thenN ?_
    refine XC.ret ?_
    exact XQ.ret (.inl rfl) rfl (rC (resT rfl) <| rN) [sl v encI l T_int 1] (⟨by first | (rw [fitsB_no hlt (by omega)]; rfl) | (have := hi.2; rw [List.take_of_length_le (Nat.le_refl _)] at this; rw [this]; rfl), rfl⟩) (fun w h => h)

/-- How many segments a disk of so many sectors has. -/
def segsN (n : Nat) : Nat := min ((n - 2) / 16) 64
theorem segsN_eq (n : Nat) : min (((n : Int) - 2).tdiv 16) 64 = (segsN n : Int) := by
  rcases Nat.lt_or_ge n 2 with h | h
  · have : n = 0 ∨ n = 1 := by omega
    rcases this with h | h <;> rw [h] <;> rfl
  · rw [Int.tdiv_eq_ediv_of_nonneg (by omega)]; unfold segsN; omega

theorem seglog_segments_fn (b : Nat) (D : DiskS) (hD : D.now.length ≤ 1026) : Does P F_seglog_segments [.pointer (some ⟨b, 0, none⟩)] [diskC b D] fun v cs => v = .int .i64 (segsN D.now.length : Int) ∧ cs = [diskC b D] := by
  refine Does.mk (N := 8) fn_seglog_segments rfl rfl rfl (fun F => ?_)
  simp only [List.cons_append, List.nil_append]
  refine XC.seq ?_
  refine XC.reg ?_
  refine XL.as rfl rfl ?_
  refine XL.nil ?_
  refine XQ.thenN ?_
  refine XC.seq ?_
  refine XC.reg ?_
  refine XL.mv rfl rfl ?_
  refine XL.call hb_sector_Disk_Size rfl rfl (sector_Disk_Size_fn _ _) (t0.c tn) ?_
  rintro _ _ ⟨rfl, rfl⟩
  simp only [List.cons_append, List.nil_append]
  refine XL.bin rfl rfl rfl (bSub (by omega)) ?_
  refine XL.bin rfl rfl rfl (bQuoT (by omega)) ?_
  refine XL.mn rfl rfl rfl ?_
  refine XL.as rfl rfl ?_
  refine XL.nil ?_
  refine XQ.thenN ?_
  refine XC.ret ?_
  exact XQ.ret (.inl rfl) rfl (rC (resT rfl) <| rN) [diskC b D] (⟨congrArg (Value.int .i64) (segsN_eq D.now.length), rfl⟩) (fun w h => h)

/-! ### Checkpoints -/
abbrev encG (x : Nat × Nat) : List Value := [.int .i64 (x.1 : Int), .int .i64 (x.2 : Int)]
theorem encG_one (x : Nat × Nat) : (encG x).all oneC = true := rfl
/-- A checkpoint. -/
structure Ck where
  serial : Nat
  boot : Nat
  seq : Nat
  segs : List (Nat × Nat)
def segB (l : List (Nat × Nat)) : List UInt8 := (l.map fun x => numB x.1 1 ++ numB x.2 1).flatten
theorem segB_length (l : List (Nat × Nat)) : (segB l).length = 2 * l.length := by
  induction l with
  | nil => rfl
  | cons x l ih => simp [segB, numB_length] at ih ⊢; omega
theorem segB_take (l : List (Nat × Nat)) (i : Nat) (h : i < l.length) : segB (l.take (i + 1)) = segB (l.take i) ++ (numB (l[i]).1 1 ++ numB (l[i]).2 1) := by
  unfold segB
  rw [List.take_succ_eq_append_getElem h]; simp only [List.map_append, List.map_cons, List.map_nil, List.flatten_append, List.flatten_cons, List.flatten_nil, List.append_nil]
def ckH (c : Ck) : List UInt8 := [67] ++ numB c.serial 8 ++ numB c.boot 8 ++ numB c.seq 8 ++ numB c.segs.length 1
def ckB (c : Ck) : List UInt8 := ckH c ++ segB c.segs
theorem ckH_length (c : Ck) : (ckH c).length = 26 := by simp [ckH, numB_length]
theorem ckB_length (c : Ck) : (ckB c).length = 26 + 2 * c.segs.length := by simp [ckB, ckH_length, segB_length]
def maxN : Nat := 9223372036854775807
/-- Its numbers are in bounds. -/
structure Ck.ok (c : Ck) : Prop where
  s : c.serial ≤ 9223372036854775807
  b : c.boot ≤ 9223372036854775807
  q : c.seq ≤ 9223372036854775807
  n : c.segs.length ≤ 64
  x : ∀ x ∈ c.segs, x.1 ≤ 9223372036854775807 ∧ x.2 ≤ 9223372036854775807
abbrev Ck.val (c : Ck) (v : Value) : Value := .agg #[.int .i64 (c.serial : Int), .int .i64 (c.boot : Int), .int .i64 (c.seq : Int), v]
abbrev Ck.sl (c : Ck) (v : Value) : Chunk := Sx.sl v encG c.segs T_seglog_Segment 2

theorem seglog_checkpoint_bytes_fn (c : Ck) (v : Value) (hc : c.ok) : Does P F_seglog_checkpoint_bytes [c.val v] [c.sl v] fun u cs => u = S (ckB c) ∧ cs = [c.sl v] := by
  refine Does.mk (N := 41) fn_seglog_checkpoint_bytes rfl rfl rfl (fun F => ?_)
  simp only [List.cons_append, List.nil_append]
  refine XC.oneV v (fun _ => ?_)
  refine XC.seq ?_
  refine XC.reg ?_
  refine XL.bx rfl rfl rfl (fun b1 => ?_)
  refine XL.as rfl rfl ?_
  refine XL.nil ?_
  refine XQ.thenN ?_
  refine XC.seq ?_
  refine XC.reg ?_
  refine XL.al z_strings_Builder rfl (fun b3 => ?_)
  refine XL.nil ?_
  refine XQ.thenN ?_
  refine XC.seq ?_
  refine XC.to (fun w h => bld_new h) ?_
  refine XC.drw (.q 0 <| .q 1 <| .q 2 <| .q 3 <| .q 4 <| .q 5 <| .q 6 <| .q 7 <| .q 8 <| .q 9 <| .q 10 <| .q 11 <| .q 12 <| .q 13 <| .q 14 <| .q 15 <| .q 16 <| .e 17 <| .done) mixed (by kernel_rfl) rfl ?_
  refine JP.qq rfl rfl rfl (XL.fa fo_seglog_checkpoint_0 rfl rfl XL.qd) ?_
  refine JP.qq rfl rfl rfl (XL.ld o_int rfl (by rfl) rfl XL.qd) ?_
  refine JP.qq rfl rfl rfl (XL.call hb_seglog_number rfl rfl (seglog_number_fn c.serial 8 hc.s (by omega)) (tn) (by rintro _ _ ⟨rfl, rfl⟩; exact XL.qdp (fun w h => h))) ?_
  refine JP.qq rfl rfl rfl (XL.bin rfl rfl rfl (bAddS (by first | omega | (simp [numB_length] <;> omega))) XL.qd) ?_
  refine JP.qq rfl rfl rfl (XL.fa fo_seglog_checkpoint_1 rfl rfl XL.qd) ?_
  refine JP.qq rfl rfl rfl (XL.ld o_int rfl (by rfl) rfl XL.qd) ?_
  refine JP.qq rfl rfl rfl (XL.call hb_seglog_number rfl rfl (seglog_number_fn c.boot 8 hc.b (by omega)) (tn) (by rintro _ _ ⟨rfl, rfl⟩; exact XL.qdp (fun w h => h))) ?_
  refine JP.qq rfl rfl rfl (XL.bin rfl rfl rfl (bAddS (by first | omega | (simp [numB_length] <;> omega))) XL.qd) ?_
  refine JP.qq rfl rfl rfl (XL.fa fo_seglog_checkpoint_2 rfl rfl XL.qd) ?_
  refine JP.qq rfl rfl rfl (XL.ld o_int rfl (by rfl) rfl XL.qd) ?_
  refine JP.qq rfl rfl rfl (XL.call hb_seglog_number rfl rfl (seglog_number_fn c.seq 8 hc.q (by omega)) (tn) (by rintro _ _ ⟨rfl, rfl⟩; exact XL.qdp (fun w h => h))) ?_
  refine JP.qq rfl rfl rfl (XL.bin rfl rfl rfl (bAddS (by first | omega | (simp [numB_length] <;> omega))) XL.qd) ?_
  refine JP.qq rfl rfl rfl (XL.fa fo_seglog_checkpoint_3 rfl rfl XL.qd) ?_
  refine JP.qq rfl rfl rfl (XL.ld o_L_seglog_Segment rfl (by rfl) rfl XL.qd) ?_
  refine JP.qq rfl rfl rfl (XL.lenS e_L_seglog_Segment rfl rfl XL.qd) ?_
  refine JP.qq rfl rfl rfl (XL.call hb_seglog_number rfl rfl (seglog_number_fn c.segs.length 1 (by have := hc.n; omega) (by omega)) (tn) (by rintro _ _ ⟨rfl, rfl⟩; exact XL.qdp (fun w h => h))) ?_
  refine JP.qq rfl rfl rfl (XL.bin rfl rfl rfl (bAddS (by first | omega | (simp [numB_length] <;> omega))) XL.qd) ?_
  refine JP.ee rfl ?_
  refine XL.call hb_strings_Builder_WriteString rfl rfl (strings_Builder_WriteString_fn b3 [] (ckH c) (by rw [ckH_length]; simp)) (t0.c tn) ?_
  rintro _ _ ⟨rfl, rfl⟩
  simp only [List.cons_append, List.nil_append]
  refine XL.ed ?_
  refine JP.done ?_
  refine XQ.thenN ?_
  refine XC.seq ?_
  refine XC.seq ?_
  refine XC.reg ?_
  refine XL.fa fo_seglog_checkpoint_3 rfl rfl ?_
  refine XL.ld o_L_seglog_Segment rfl (by rfl) rfl ?_
  refine XL.lenS e_L_seglog_Segment rfl rfl ?_
  refine XL.mv rfl rfl ?_
  refine XL.nil ?_
  refine XQ.thenN ?_
  refine XC.block ?_
  refine XC.loop (ι := Nat) (fun i => [(3, .pointer (some ⟨b3, 0, none⟩)), (25, v), (26, .int .i64 (c.segs.length : Int)), (27, .int .i64 (i : Int))]) (fun i => [bldC b3 (ckH c ++ segB (c.segs.take i)) T_strings_Builder, c.sl v, F])
    (fun i => i ≤ c.segs.length) (fun i => c.segs.length - i) 0 (Nat.zero_le _) ⟨rfl, rfl, rfl, rfl, trivial⟩ (fun w h => by rw [List.take_zero, show segB [] = [] from rfl, List.append_nil]; exact Take.sat (t0.c <| t1.c <| t1.c tn) h) (fun i hi => ?_)
  refine XC.seq ?_
  refine XC.reg ?_
  refine XL.bin rfl rfl rfl (bLss) ?_
  refine XL.nil ?_
  refine XQ.thenN ?_
  refine XC.seq ?_
  refine XC.cond rfl (fun hc0 => ?_) (fun hc0 => ?_)
  · have hlt : i < c.segs.length := by omega
    have hx := hc.x _ (List.getElem_mem hlt)
    have hsl := segB_length (c.segs.take i)
    have hcn := hc.n
    have hhl := ckH_length c
    rw [List.length_take] at hsl
    refine XC.skip ?_
    refine XQ.thenN ?_
    refine XC.seq ?_
    refine XC.block ?_
    refine XC.seq ?_
    refine XC.reg ?_
    refine XL.ixS i e_L_seglog_Segment rfl rfl rfl hlt rfl (fun b29 _ => ?_)
    refine XL.ldSN g_seglog_Segment rfl hlt rfl ?_
    refine XL.al z_seglog_Segment rfl (fun b5 => ?_)
    refine XL.stM g_seglog_Segment rfl rfl rfl (by rfl) rfl ?_
    refine XL.nil ?_
    refine XQ.thenN ?_
    refine XC.drw (.q 0 <| .q 1 <| .q 2 <| .q 3 <| .q 4 <| .q 5 <| .q 6 <| .e 7 <| .done) mixed (by kernel_rfl) rfl ?_
    refine JP.qq rfl rfl rfl (XL.fa fo_seglog_Segment_0 rfl rfl XL.qd) ?_
    refine JP.qq rfl rfl rfl (XL.ld o_int rfl (by rfl) rfl XL.qd) ?_
    refine JP.qq rfl rfl rfl (XL.call hb_seglog_number rfl rfl (seglog_number_fn (c.segs[i]).1 1 hx.1 (by omega)) (tn) (by rintro _ _ ⟨rfl, rfl⟩; exact XL.qdp (fun w h => h))) ?_
    refine JP.qq rfl rfl rfl (XL.fa fo_seglog_Segment_1 rfl rfl XL.qd) ?_
    refine JP.qq rfl rfl rfl (XL.ld o_int rfl (by rfl) rfl XL.qd) ?_
    refine JP.qq rfl rfl rfl (XL.call hb_seglog_number rfl rfl (seglog_number_fn (c.segs[i]).2 1 hx.2 (by omega)) (tn) (by rintro _ _ ⟨rfl, rfl⟩; exact XL.qdp (fun w h => h))) ?_
    refine JP.qq rfl rfl rfl (XL.bin rfl rfl rfl (bAddS (by first | omega | (simp [numB_length] <;> omega))) XL.qd) ?_
    refine JP.ee rfl ?_
    refine XL.call hb_strings_Builder_WriteString rfl rfl (strings_Builder_WriteString_fn b3 (ckH c ++ segB (c.segs.take i)) (numB (c.segs[i]).1 1 ++ numB (c.segs[i]).2 1) (by simp only [List.length_append, numB_length]; omega)) (t1.c tn) ?_
    rintro _ _ ⟨rfl, rfl⟩
    simp only [List.cons_append, List.nil_append]
    refine XL.ed ?_
    refine JP.done ?_
    refine XQ.blkN ?_
    refine XQ.thenN ?_
    refine XC.reg ?_
    refine XL.bin rfl rfl rfl (bAdd (by omega)) ?_
    refine XL.mv rfl rfl ?_
    refine XL.nil ?_
    exact XQ.again (i + 1) (by omega) (by omega) ⟨rfl, rfl, rfl, rfl, trivial⟩ (fun w h => by rw [segB_take _ _ hlt, ← List.append_assoc]; exact Take.sat (t0.c <| t1.c <| t1.c tn) h)
  · obtain rfl : i = c.segs.length := by omega
    refine XC.exit ?_
    refine XQ.thenE ?_
    refine XQ.thenE ?_
    refine XQ.blkE ?_
    refine XQ.thenN ?_
    refine XC.seq ?_
    refine XC.reg ?_
    refine XL.to (fun w h => (by rw [List.take_of_length_le (Nat.le_refl _)] at h; exact h : Sat [bldC b3 (ckB c) T_strings_Builder, c.sl v, F] w)) ?_
    refine XL.call hb_strings_Builder_String rfl rfl (strings_Builder_String_fn b3 (ckB c) (by rw [ckB_length]; have := hc.n; omega)) (t0.c tn) ?_
    rintro _ _ ⟨rfl, rfl⟩
    simp only [List.cons_append, List.nil_append]
    refine XL.as rfl rfl ?_
    refine XL.nil ?_
    refine XQ.thenN ?_
    refine XC.ret ?_
    exact XQ.ret (.inl rfl) rfl (rC (resT rfl) <| rN) [c.sl v] (⟨rfl, rfl⟩) (fun w h => Take.sat (t1.c <| t1.c tn) h)
end Go.Proofs.YthlfbndanknnmaaDoor
