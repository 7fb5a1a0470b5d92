/-
  Package seglog: slices of segments. Printed by mk.py out of spec_k05b.py.
-/
import Derived.Test.YthlfbndanknnmaaDoorSxK05
import Derived.Test.YthlfbndanknnmaaDoorSx10
namespace Go.Proofs.YthlfbndanknnmaaDoor
open Go Go.Sx

/-- The place of the first of which 'p' holds; -1: there is none. -/
def idxZ (p : Nat × Nat → Bool) (l : List (Nat × Nat)) : Int := if l.any p then (l.findIdx p : Int) else -1
theorem idxZ_at {p : Nat × Nat → Bool} {l : List (Nat × Nat)} {i : Nat} (h : i < l.length) (hp : p l[i] = true) (hi : ∀ k (hk : k < l.length), k < i → p l[k] = false) : idxZ p l = i := by
  unfold idxZ
  rw [if_pos (List.any_eq_true.2 ⟨_, List.getElem_mem h, hp⟩), (List.findIdx_eq h).2 ⟨hp, fun j hj => by rw [hi j _ hj]⟩]
theorem idxZ_none {p : Nat × Nat → Bool} {l : List (Nat × Nat)} (hi : ∀ k (hk : k < l.length), p l[k] = false) : idxZ p l = -1 := by
  unfold idxZ
  rw [if_neg]
  rw [List.any_eq_true]
  rintro ⟨x, hx, hp⟩
  obtain ⟨k, hk, rfl⟩ := List.getElem_of_mem hx
  rw [hi k hk] at hp; cases hp
abbrev segS (v : Value) (l : List (Nat × Nat)) : Chunk := Sx.sl v encG l T_seglog_Segment 2

theorem slices_IndexFunc_L_seglog_Segment_seglog_Segment_fn (v cap : Value) (l : List (Nat × Nat)) (f : FuncId) (C : Chunk) (p : Nat × Nat → Bool) (hb : hasBody P f = true) (hl : l.length ≤ 1000000)
  (hp : ∀ x, Does P f ([.agg (encG x).toArray] ++ [cap]) [C] fun u cs => u = .bool (p x) ∧ cs = [C]) :
  Does P F_slices_IndexFunc_L_seglog_Segment_seglog_Segment [v, .func (.func f) #[] [cap].toArray] [segS v l, C] fun u cs => u = .int .i64 (idxZ p l) ∧ cs = [segS v l, C] := by
  refine Does.mk (N := 19) fn_slices_IndexFunc_L_seglog_Segment_seglog_Segment rfl rfl rfl (fun F => ?_)
  simp only [List.cons_append, List.nil_append]
  refine XC.seq ?_
  refine XC.reg ?_
  refine XL.as rfl rfl ?_
  refine XL.nil ?_
  refine XQ.thenN ?_
  refine XC.seq ?_
  refine XC.seq ?_
  refine XC.reg ?_
  refine XL.mv rfl rfl ?_
  refine XL.lenS e_L_seglog_Segment rfl rfl ?_
  refine XL.mv rfl rfl ?_
  refine XL.nil ?_
  refine XQ.thenN ?_
  refine XC.block ?_
  refine XC.loop (ι := Nat) (fun i => [(0, v), (1, .func (.func f) #[] [cap].toArray), (7, .int .i64 (l.length : Int)), (8, .int .i64 (i : Int))]) (fun i => [segS v l, C, F])
    (fun i => i ≤ l.length ∧ ∀ k (hk : k < l.length), k < i → p l[k] = false) (fun i => l.length - i) 0 ⟨Nat.zero_le _, fun k _ h => absurd h (Nat.not_lt_zero _)⟩ ⟨rfl, rfl, rfl, rfl, trivial⟩ (fun w h => h) (fun i hi => ?_)
  refine XC.seq ?_
  refine XC.reg ?_
  refine XL.bin rfl rfl rfl (bLss) ?_
  refine XL.nil ?_
  refine XQ.thenN ?_
  refine XC.seq ?_
  refine XC.cond rfl (fun hc0 => ?_) (fun hc0 => ?_)
  · have hlt : i < l.length := by omega
    refine XC.skip ?_
    refine XQ.thenN ?_
    refine XC.seq ?_
    refine XC.block ?_
    refine XC.seq ?_
    refine XC.reg ?_
    refine XL.mv rfl rfl ?_
    refine XL.as rfl rfl ?_
    refine XL.nil ?_
    refine XQ.thenN ?_
    refine XC.seq ?_
    refine XC.reg ?_
    refine XL.mv rfl rfl ?_
    refine XL.mv rfl rfl ?_
    refine XL.mv rfl rfl ?_
    refine XL.ixS i e_L_seglog_Segment rfl rfl rfl hlt rfl (fun b14 _ => ?_)
    refine XL.ldSN g_seglog_Segment rfl hlt rfl ?_
    refine XL.callV hb (captured := [cap]) rfl rfl rfl (hp _) (t1.c tn) ?_
    rintro _ _ ⟨rfl, rfl⟩
    simp only [List.cons_append, List.nil_append]
    refine XL.nil ?_
    refine XQ.thenN ?_
    refine XC.condB rfl (fun hc1 => ?_) (fun hc1 => ?_)
    · refine XC.seq ?_
      refine XC.reg ?_
      refine XL.mv rfl rfl ?_
      refine XL.as rfl rfl ?_
      refine XL.nil ?_
      refine XQ.thenN ?_
      refine XC.ret ?_
      refine XQ.blkR ?_
      refine XQ.thenR ?_
      refine XQ.thenR ?_
      refine XQ.blkR ?_
      refine XQ.thenR ?_
      exact XQ.ret (.inl rfl) rfl (rC (resT rfl) <| rN) [segS v l, C] (⟨by first | (rw [idxZ_at hlt hc1 hi.2]; rfl) | (rw [idxZ_none fun k hk => hi.2 k hk hk]; rfl), rfl⟩) (fun w h => by first | exact h | exact Take.sat (t1.c <| t0.c <| t0.c tn) h)
    · refine XC.skip ?_
      refine XQ.blkN ?_
      refine XQ.thenN ?_
      refine XC.reg ?_
      refine XL.bin rfl rfl rfl (bAdd (by omega)) ?_
      refine XL.mv rfl rfl ?_
      refine XL.nil ?_
      refine XQ.again (i + 1) ⟨by omega, fun k hk hki => ?_⟩ (by omega) ⟨rfl, rfl, rfl, rfl, trivial⟩ (fun w h => Take.sat (t1.c <| t0.c <| t0.c tn) h)
      rcases Nat.lt_or_ge k i with h | h
      · exact hi.2 k hk h
      · obtain rfl : k = i := by omega
        exact hc1
  · obtain rfl : i = l.length := by omega
    refine XC.exit ?_
    refine XQ.thenE ?_
    refine XQ.thenE ?_
    refine XQ.blkE ?_
    refine XQ.thenN ?_
    refine XC.seq ?_
    refine XC.reg ?_
    refine XL.as rfl rfl ?_
    refine XL.nil ?_
    refine XQ.thenN ?_
    refine XC.ret ?_
    exact XQ.ret (.inl rfl) rfl (rC (resT rfl) <| rN) [segS v l, C] (⟨by first | (rw [idxZ_at hlt hc1 hi.2]; rfl) | (rw [idxZ_none fun k hk => hi.2 k hk hk]; rfl), rfl⟩) (fun w h => by first | exact h | exact Take.sat (t1.c <| t0.c <| t0.c tn) h)

theorem slices_ContainsFunc_L_seglog_Segment_seglog_Segment_fn (v cap : Value) (l : List (Nat × Nat)) (f : FuncId) (C : Chunk) (p : Nat × Nat → Bool) (hb : hasBody P f = true) (hl : l.length ≤ 1000000)
  (hp : ∀ x, Does P f ([.agg (encG x).toArray] ++ [cap]) [C] fun u cs => u = .bool (p x) ∧ cs = [C]) :
  Does P F_slices_ContainsFunc_L_seglog_Segment_seglog_Segment [v, .func (.func f) #[] [cap].toArray] [segS v l, C] fun u cs => u = .bool (l.any p) ∧ cs = [segS v l, C] := by
  refine Does.mk (N := 9) fn_slices_ContainsFunc_L_seglog_Segment_seglog_Segment rfl rfl rfl (fun F => ?_)
  simp only [List.cons_append, List.nil_append]
  refine XC.seq ?_
  refine XC.reg ?_
  refine XL.as rfl rfl ?_
  refine XL.nil ?_
  refine XQ.thenN ?_
  refine XC.seq ?_
  refine XC.reg ?_
  refine XL.mv rfl rfl ?_
  refine XL.mv rfl rfl ?_
  refine XL.call hb_slices_IndexFunc_L_seglog_Segment_seglog_Segment rfl rfl (slices_IndexFunc_L_seglog_Segment_seglog_Segment_fn v cap l f C p hb hl hp) (t0.c <| t0.c tn) ?_
  rintro _ _ ⟨rfl, rfl⟩
  simp only [List.cons_append, List.nil_append]
  refine XL.bin rfl rfl rfl (bGeq) ?_
  refine XL.as rfl rfl ?_
  refine XL.nil ?_
  refine XQ.thenN ?_
  refine XC.ret ?_
  exact XQ.ret (.inl rfl) rfl (rC (resT rfl) <| rN) [segS v l, C] (⟨congrArg Value.bool (by unfold idxZ; split <;> rename_i h <;> simp_all), rfl⟩) (fun w h => h)

theorem seglog_checkpointOf_c1_fn (x : Nat × Nat) (b : Nat) (n m : Int) : Does P F_seglog_checkpointOf_c1 [.agg (encG x).toArray, .pointer (some ⟨b, 0, none⟩)] [blk b [.int .i64 n, .int .i64 m] T_seglog_Segment] fun u cs => u = .bool (decide ((x.1 : Int) = n)) ∧ cs = [blk b [.int .i64 n, .int .i64 m] T_seglog_Segment] := by
  refine Does.mk (N := 9) fn_seglog_checkpointOf_c1 rfl rfl rfl (fun F => ?_)
  simp only [List.cons_append, List.nil_append]
  refine XC.seq ?_
  refine XC.reg ?_
  refine XL.bx rfl rfl rfl (fun b2 => ?_)
  refine XL.as rfl rfl ?_
  refine XL.nil ?_
  refine XQ.thenN ?_
  refine XC.seq ?_
  refine XC.reg ?_
  refine XL.fa fo_seglog_Segment_0 rfl rfl ?_
  refine XL.ld o_int rfl (by rfl) rfl ?_
  refine XL.fa fo_seglog_Segment_0 rfl rfl ?_
  refine XL.ld o_int rfl (by rfl) rfl ?_
  refine XL.bin rfl rfl rfl (bEqI) ?_
  refine XL.as rfl rfl ?_
  refine XL.nil ?_
  refine XQ.thenN ?_
  refine XC.ret ?_
  exact XQ.ret (.inl rfl) rfl (rC (resT rfl) <| rN) [blk b [.int .i64 n, .int .i64 m] T_seglog_Segment] (⟨rfl, rfl⟩) (fun w h => Sat.tail h)

theorem seglog_Log_open_c1_fn (x : Nat × Nat) (b : Nat) (n : Int) : Does P F_seglog_Log_open_c1 [.agg (encG x).toArray, .pointer (some ⟨b, 0, none⟩)] [blk b [.int .i64 n] T_int] fun u cs => u = .bool (decide ((x.1 : Int) = n)) ∧ cs = [blk b [.int .i64 n] T_int] := by
  refine Does.mk (N := 8) fn_seglog_Log_open_c1 rfl rfl rfl (fun F => ?_)
  simp only [List.cons_append, List.nil_append]
  refine XC.seq ?_
  refine XC.reg ?_
  refine XL.bx rfl rfl rfl (fun b2 => ?_)
  refine XL.as rfl rfl ?_
  refine XL.nil ?_
  refine XQ.thenN ?_
  refine XC.seq ?_
  refine XC.reg ?_
  refine XL.fa fo_seglog_Segment_0 rfl rfl ?_
  refine XL.ld o_int rfl (by rfl) rfl ?_
  refine XL.ld o_int rfl (by rfl) rfl ?_
  refine XL.bin rfl rfl rfl (bEqI) ?_
  refine XL.as rfl rfl ?_
  refine XL.nil ?_
  refine XQ.thenN ?_
  refine XC.ret ?_
  exact XQ.ret (.inl rfl) rfl (rC (resT rfl) <| rN) [blk b [.int .i64 n] T_int] (⟨rfl, rfl⟩) (fun w h => Sat.tail h)

theorem seglog_Log_Drop_c1_fn (x : Nat × Nat) (b : Nat) (n : Int) : Does P F_seglog_Log_Drop_c1 [.agg (encG x).toArray, .pointer (some ⟨b, 0, none⟩)] [blk b [.int .i64 n] T_int] fun u cs => u = .bool (decide ((x.1 : Int) = n)) ∧ cs = [blk b [.int .i64 n] T_int] := by
  refine Does.mk (N := 8) fn_seglog_Log_Drop_c1 rfl rfl rfl (fun F => ?_)
  simp only [List.cons_append, List.nil_append]
  refine XC.seq ?_
  refine XC.reg ?_
  refine XL.bx rfl rfl rfl (fun b2 => ?_)
  refine XL.as rfl rfl ?_
  refine XL.nil ?_
  refine XQ.thenN ?_
  refine XC.seq ?_
  refine XC.reg ?_
  refine XL.fa fo_seglog_Segment_0 rfl rfl ?_
  refine XL.ld o_int rfl (by rfl) rfl ?_
  refine XL.ld o_int rfl (by rfl) rfl ?_
  refine XL.bin rfl rfl rfl (bEqI) ?_
  refine XL.as rfl rfl ?_
  refine XL.nil ?_
  refine XQ.thenN ?_
  refine XC.ret ?_
  exact XQ.ret (.inl rfl) rfl (rC (resT rfl) <| rN) [blk b [.int .i64 n] T_int] (⟨rfl, rfl⟩) (fun w h => Sat.tail h)

theorem slices_Clone_L_seglog_Segment_seglog_Segment_fn (v : Value) (l : List (Nat × Nat)) (h0 : 0 < l.length) (hl : l.length ≤ 1000000) : Does P F_slices_Clone_L_seglog_Segment_seglog_Segment [v] [segS v l] fun u cs => cs = [segS u l, segS v l] := by
  refine Does.mk (N := 8) fn_slices_Clone_L_seglog_Segment_seglog_Segment rfl rfl rfl (fun F => ?_)
  simp only [List.cons_append, List.nil_append]
  refine XC.isAt v 0 h0 (fun bv _ => ?_)
  refine XC.seq ?_
  refine XC.reg ?_
  refine XL.as rfl rfl ?_
  refine XL.nil ?_
  refine XQ.thenN ?_
  refine XC.seq ?_
  refine XC.seq ?_
  refine XC.reg ?_
  refine XL.mv rfl rfl ?_
  refine XL.bin rfl rfl rfl (bEqSlF u_L_seglog_Segment) ?_
  refine XL.nil ?_
  refine XQ.thenN ?_
  refine XC.condF rfl ?_
  refine XC.skip ?_
  refine XQ.thenN ?_
  refine XC.seq ?_
  refine XC.reg ?_
  refine XL.bs (enc := encG) ([] : List (Nat × Nat)) e_L_seglog_Segment z_seglog_Segment rfl rfl rfl (by intro x hx; cases hx) rfl (fun v5 _ => ?_)
  refine XL.mv rfl rfl ?_
  refine XL.app l e_L_seglog_Segment e_L_seglog_Segment z_seglog_Segment rfl rfl rfl rfl (fun x _ => encG_one x) (by first | omega | (simp [numB_length] <;> omega)) rfl (fun v7 _ => ?_)
  refine XL.as rfl rfl ?_
  refine XL.nil ?_
  refine XQ.thenN ?_
  refine XC.ret ?_
  exact XQ.ret (.inl rfl) rfl (rC (resT rfl) <| rN) [segS v7 l, segS v l] (rfl) (fun w h => h)

theorem zero1_seg : (Builtin.zeroCells [.int .i64 0, .int .i64 0].toArray 1).toList = [.int .i64 0, .int .i64 0] := by
  have h : Array.range (1 * 2) = #[0, 1] := by decide
  simp only [Builtin.zeroCells, List.size_toArray, List.length_cons, List.length_nil, Nat.zero_add, Nat.reduceAdd, h]
  simp
theorem segF_length (l : List (Nat × Nat)) : ((l.map encG).flatten).length = l.length * 2 := flat_length l (fun _ _ => rfl)
theorem segF_one (l : List (Nat × Nat)) : ((l.map encG).flatten).all oneC = true := by
  rw [List.all_eq_true]; intro x hx
  obtain ⟨y, hy, hx⟩ := List.mem_flatten.1 hx
  obtain ⟨z, _, rfl⟩ := List.mem_map.1 hy
  exact List.all_eq_true.1 (encG_one z) x hx
theorem segF_split (l : List (Nat × Nat)) (i : Nat) : (l.map encG).flatten = ((l.take i).map encG).flatten ++ ((l.drop i).map encG).flatten := by
  rw [← List.flatten_append, ← List.map_append, List.take_append_drop]
theorem del_src (l : List (Nat × Nat)) (sp : List Value) (i : Nat) (h : i + 1 ≤ l.length) : (((l.map encG).flatten ++ sp).drop ((i + 1) * 2)).take ((l.length - (i + 1)) * 2) = ((l.drop (i + 1)).map encG).flatten := by
  rw [segF_split l (i + 1), List.append_assoc, List.drop_append_of_le_length (by rw [segF_length]; simp; omega), List.drop_of_length_le (by rw [segF_length]; simp; omega), List.nil_append, List.take_append_of_le_length (by rw [segF_length]; simp), List.take_of_length_le (by rw [segF_length]; simp)]
theorem del_done (l : List (Nat × Nat)) (sp : List Value) (i : Nat) (h : i + 1 < l.length) : ∃ sp' : List Value, sp'.length = sp.length + 2 ∧
    setsN (setsN ((l.map encG).flatten ++ sp) (0 + i * 2) (((l.drop (i + 1)).map encG).flatten)) ((l.length - 1) * 2) [.int .i64 0, .int .i64 0] = ((l.eraseIdx i).map encG).flatten ++ sp' := by
  have e1 : (l.map encG).flatten ++ sp = ((l.take i).map encG).flatten ++ (((l.drop i).map encG).flatten.take ((l.length - (i + 1)) * 2)) ++ ((((l.drop i).map encG).flatten.drop ((l.length - (i + 1)) * 2)) ++ sp) := by
    rw [segF_split l i]; simp only [List.append_assoc]; rw [← List.append_assoc (List.take _ _), List.take_append_drop]
  have hli : (((l.take i).map encG).flatten).length = i * 2 := by rw [segF_length]; simp; omega
  have hm : (((l.drop i).map encG).flatten.take ((l.length - (i + 1)) * 2)).length = (((l.drop (i + 1)).map encG).flatten).length := by
    rw [List.length_take, segF_length, segF_length]; simp; omega
  have h1 := setsN_append (((l.drop (i + 1)).map encG).flatten) (((l.take i).map encG).flatten) _ ((((l.drop i).map encG).flatten.drop ((l.length - (i + 1)) * 2)) ++ sp) hm
  rw [hli, ← e1] at h1
  rw [Nat.zero_add, h1]
  have e2 : ((l.eraseIdx i).map encG).flatten = ((l.take i).map encG).flatten ++ ((l.drop (i + 1)).map encG).flatten := by
    rw [← List.flatten_append, ← List.map_append, List.eraseIdx_eq_take_drop_succ]
  have hl3 : ((((l.drop i).map encG).flatten.drop ((l.length - (i + 1)) * 2))).length = 2 := by
    rw [List.length_drop, segF_length]; simp; omega
  have hl4 : (((l.eraseIdx i).map encG).flatten).length = (l.length - 1) * 2 := by rw [segF_length, List.length_eraseIdx_of_lt (by omega)]
  have h2 := setsN_append [.int .i64 0, .int .i64 0] (((l.eraseIdx i).map encG).flatten) _ sp hl3
  rw [hl4, e2] at h2
  rw [← List.append_assoc, h2, e2]
  exact ⟨[.int .i64 0, .int .i64 0] ++ sp, by simp, by simp⟩

theorem slices_Delete_L_seglog_Segment_seglog_Segment_fn (v : Value) (l : List (Nat × Nat)) (i : Nat) (h0 : i + 1 < l.length) : Does P F_slices_Delete_L_seglog_Segment_seglog_Segment [v, .int .i64 (i : Int), .int .i64 ((i + 1 : Nat) : Int)] [segS v l] fun u cs => cs = [segS u (l.eraseIdx i)] := by
  refine Does.mk (N := 33) fn_slices_Delete_L_seglog_Segment_seglog_Segment rfl rfl rfl (fun F => ?_)
  simp only [List.cons_append, List.nil_append]
  refine XC.opS v t0 (by omega) ?_
  rintro b cap sp rfl hcap hlen hel
  have hlc : l.length ≤ cap := by rw [List.length_append, segF_length] at hlen; omega
  have hlen2 : l.length * 2 + sp.length = cap * 2 := by rw [List.length_append, segF_length] at hlen; omega
  refine XC.seq ?_
  refine XC.reg ?_
  refine XL.as rfl rfl ?_
  refine XL.nil ?_
  refine XQ.thenN ?_
  refine XC.seq ?_
  refine XC.reg ?_
  refine XL.mv rfl rfl ?_
  refine XL.mv rfl rfl ?_
  refine XL.mv rfl rfl ?_
  refine XL.mv rfl rfl ?_
  refine XL.lenW e_L_seglog_Segment rfl rfl ?_
  refine XL.slW i (i + 1) l.length e_L_seglog_Segment rfl ⟨_, rfl⟩ rfl ⟨_, rfl⟩ ⟨_, rfl⟩ (by omega) (by omega) (by omega) rfl ?_
  refine XL.nil ?_
  refine XQ.thenN ?_
  refine XC.seq ?_
  refine XC.seq ?_
  refine XC.reg ?_
  refine XL.mv rfl rfl ?_
  refine XL.mv rfl rfl ?_
  refine XL.bin rfl rfl rfl (bEqI) ?_
  refine XL.nil ?_
  refine XQ.thenN ?_
  refine XC.condF' rfl (decide_eq_false (by omega)) ?_
  refine XC.skip ?_
  refine XQ.thenN ?_
  refine XC.seq ?_
  refine XC.reg ?_
  refine XL.mv rfl rfl ?_
  refine XL.lenW e_L_seglog_Segment rfl rfl ?_
  refine XL.as rfl rfl ?_
  refine XL.nil ?_
  refine XQ.thenN ?_
  refine XC.seq ?_
  refine XC.drw (.q 0 <| .q 1 <| .q 2 <| .q 3 <| .q 4 <| .q 5 <| .e 6 <| .e 7 <| .done) mixed (by kernel_rfl) rfl ?_
  refine JP.qq rfl rfl rfl (XL.mv rfl rfl XL.qd) ?_
  refine JP.qq rfl rfl rfl (XL.mv rfl rfl XL.qd) ?_
  refine JP.qq rfl rfl rfl (XL.slW 0 i cap e_L_seglog_Segment rfl rfl rfl ⟨_, rfl⟩ rfl (by omega) (by omega) (by omega) rfl (XL.re 22 (u := .slice (some ⟨b, 0, none⟩) i cap) rfl (by simp) XL.qd)) ?_
  refine JP.qq rfl rfl rfl (XL.mv rfl rfl XL.qd) ?_
  refine JP.qq rfl rfl rfl (XL.mv rfl rfl XL.qd) ?_
  refine JP.qq rfl rfl rfl (XL.slW (i + 1) l.length cap e_L_seglog_Segment rfl ⟨_, rfl⟩ rfl rfl rfl (by omega) (by omega) (by omega) rfl (XL.re 25 (u := .slice (some ⟨b, (i + 1) * 2, none⟩) (l.length - (i + 1)) (cap - (i + 1))) rfl (by rw [if_neg (by omega), Nat.zero_add]) XL.qd)) ?_
  refine JP.ee rfl ?_
  refine XL.apW e_L_seglog_Segment rfl rfl (by omega) (by rw [List.length_append, segF_length]; omega) (by rw [List.length_append, segF_length]; omega) (by rw [del_src l sp i (by omega)]; exact segF_one _) rfl ?_
  rw [del_src l sp i (by omega)]
  refine XL.ed ?_
  refine JP.ee rfl ?_
  refine XL.as rfl rfl ?_
  refine XL.ed ?_
  refine JP.done ?_
  refine XQ.thenN ?_
  refine XC.seq ?_
  refine XC.reg ?_
  refine XL.mv rfl rfl ?_
  refine XL.mv rfl rfl ?_
  refine XL.lenW e_L_seglog_Segment rfl rfl ?_
  refine XL.mv rfl rfl ?_
  refine XL.re 29 (u := .int .i64 ((l.length - 1 : Nat) : Int)) rfl (congrArg (Value.int .i64) (by omega)) ?_
  refine XL.slW (l.length - 1) l.length cap e_L_seglog_Segment rfl ⟨_, rfl⟩ rfl ⟨_, rfl⟩ rfl (by omega) (by omega) (by omega) rfl (XL.re 31 (u := .slice (some ⟨b, (l.length - 1) * 2, none⟩) 1 (cap - (l.length - 1))) rfl (by rw [if_neg (by omega), Nat.zero_add, show l.length - (l.length - 1) = 1 by omega]) ?_)
  refine XL.clW (zz := [.int .i64 0, .int .i64 0]) e_L_seglog_Segment z_seglog_Segment rfl (by omega) zero1_seg rfl (by rw [setsN_length, List.length_append, segF_length]; simp; omega) rfl ?_
  refine XL.nil ?_
  refine XQ.thenN ?_
  refine XC.seq ?_
  refine XC.reg ?_
  refine XL.mv rfl rfl ?_
  refine XL.as rfl rfl ?_
  refine XL.nil ?_
  refine XQ.thenN ?_
  refine XC.ret ?_
  exact XQ.ret (.inl rfl) rfl (rC (resT rfl) <| rN) [segS (.slice (some ⟨b, 0, none⟩) (i + (l.length - (i + 1))) cap) (l.eraseIdx i)] (rfl) (fun w h => by obtain ⟨sp2, hs2, he2⟩ := del_done l sp i h0; have h3 := sl_of (xs := l.eraseIdx i) (enc := encG) (sz := 2) (cap := cap) h he2 hcap (by rw [he2, List.length_append, segF_length, List.length_eraseIdx_of_lt (by omega)]; omega) (fun _ _ => rfl); rw [List.length_eraseIdx_of_lt (by omega)] at h3; rw [show i + (l.length - (i + 1)) = l.length - 1 by omega]; exact h3)
end Go.Proofs.YthlfbndanknnmaaDoor
