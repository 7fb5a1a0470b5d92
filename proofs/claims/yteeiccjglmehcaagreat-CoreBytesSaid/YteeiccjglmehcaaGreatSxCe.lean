/-
  coraclelaw13: CoreBytes. Printed by mk.py out of spec_coree.py.
-/
import Derived.Test.YteeiccjglmehcaaGreatSxCc
import Derived.Test.YteeiccjglmehcaaGreatSxCd
namespace Go.Proofs.YteeiccjglmehcaaGreat
open Go Go.Sx

set_option synthInstance.maxSize 4000
set_option synthInstance.maxHeartbeats 200000
structure IntIn (w0 : World) (v : Value) (len j : Nat) (b o cap : Nat) (a : Int) : Prop where
  v : v = .slice (some ⟨b, o, none⟩) len cap
  c : w0.cell? ⟨b, o + j * 1, none⟩ = some (I a)
structure StrIn (w0 : World) (v : Value) (len j : Nat) (b o cap : Nat) (t : List UInt8) : Prop where
  v : v = .slice (some ⟨b, o, none⟩) len cap
  c : w0.cell? ⟨b, o + j * 1, none⟩ = some (S t)
  t : t.length ≤ 140737488351232
theorem ints_read {w0 : World} {v1 : Value} {ds : List Dv} (h : Rd w0 140737488351232 (.sl (.int .i64) 8) [v1] (.sl ds)) : ds.length ≤ 140737488351232 ∧ (∃ p cap, v1 = .slice p ds.length cap) ∧ ∀ j, j < ds.length → ∃ b o cap a, IntIn w0 v1 ds.length j b o cap a := by
  unfold Rd at h
  rcases h with ⟨h1, rfl⟩ | ⟨p, cap, h1, h2, h3⟩
  · have e : v1 = .slice none 0 0 := by simpa using h1
    exact ⟨Nat.zero_le _, ⟨none, 0, e⟩, fun j hj => absurd hj (Nat.not_lt_zero _)⟩
  · have e : v1 = .slice (some p) ds.length cap := by simpa using h1
    refine ⟨by omega, ⟨_, _, e⟩, fun j hj => ?_⟩
    obtain ⟨b, o, rfl, cs, k1, k2, k3⟩ := h3 j hj
    generalize ds[j] = d at k3
    cases d <;> simp only [Rd] at k3
    obtain ⟨rfl, _⟩ := k3
    exact ⟨b, o, cap, _, e, k2 0 _ rfl⟩
theorem strs_read {w0 : World} {v1 : Value} {ds : List Dv} (h : Rd w0 140737488351232 (.sl .str 16) [v1] (.sl ds)) : ds.length ≤ 140737488351232 ∧ (∃ p cap, v1 = .slice p ds.length cap) ∧ ∀ j, j < ds.length → ∃ b o cap t, StrIn w0 v1 ds.length j b o cap t := by
  unfold Rd at h
  rcases h with ⟨h1, rfl⟩ | ⟨p, cap, h1, h2, h3⟩
  · have e : v1 = .slice none 0 0 := by simpa using h1
    exact ⟨Nat.zero_le _, ⟨none, 0, e⟩, fun j hj => absurd hj (Nat.not_lt_zero _)⟩
  · have e : v1 = .slice (some p) ds.length cap := by simpa using h1
    refine ⟨by omega, ⟨_, _, e⟩, fun j hj => ?_⟩
    obtain ⟨b, o, rfl, cs, k1, k2, k3⟩ := h3 j hj
    generalize ds[j] = d at k3
    cases d <;> simp only [Rd] at k3
    obtain ⟨rfl, ht⟩ := k3
    exact ⟨b, o, cap, _, e, k2 0 _ rfl, ht⟩
theorem rem3000 (a : Int) : ∃ o : Nat, (a.tmod 3000 + 3000).tmod 3000 = (o : Int) ∧ o < 3000 ∧ -3000 < a.tmod 3000 ∧ a.tmod 3000 < 3000 := by
  have h1 : -3000 < a.tmod 3000 ∧ a.tmod 3000 < 3000 := ⟨by have := Int.lt_tmod_of_pos a (show (0:Int) < 3000 by decide); omega, Int.tmod_lt_of_pos a (by decide)⟩
  have h2 : 0 ≤ (a.tmod 3000 + 3000).tmod 3000 := Int.tmod_nonneg _ (by omega)
  have h3 : (a.tmod 3000 + 3000).tmod 3000 < 3000 := Int.tmod_lt_of_pos _ (by decide)
  exact ⟨((a.tmod 3000 + 3000).tmod 3000).toNat, by omega, by omega, h1⟩
/-- What is wanted while it is made longer, and while it is written. -/
def extL (L : List UInt8) (o : Nat) (d : List UInt8) : List UInt8 := if d = [] then L else cutL L (max L.length (o + d.length))
theorem extL_le (L : List UInt8) (o : Nat) (d : List UInt8) : (extL L o d).length ≤ max L.length (o + d.length) := by
  unfold extL; split
  · omega
  · rw [cutL_length]; exact Nat.le_refl _
theorem extL_ge {L : List UInt8} {o : Nat} {d : List UInt8} {k : Nat} (h : k < d.length) : o + k < (extL L o d).length := by
  have hd : d ≠ [] := by intro e; subst e; simp at h
  rw [extL, if_neg hd, cutL_length]; omega
def midL (E : List UInt8) (o : Nat) (d : List UInt8) (k : Nat) : List UInt8 := E.take o ++ d.take k ++ E.drop (o + k)
theorem midL_zero (E : List UInt8) (o : Nat) (d : List UInt8) : midL E o d 0 = E := by simp [midL]
theorem midL_end (L : List UInt8) (o : Nat) (d : List UInt8) : midL (extL L o d) o d d.length = wrL L o d := by
  unfold midL wrL extL
  split
  · rename_i h; subst h; simp
  · simp
theorem midL_step {L : List UInt8} {o : Nat} {d : List UInt8} {k : Nat} (h : k < d.length) : (midL (extL L o d) o d k).set (o + k) (d.getD k 0) = midL (extL L o d) o d (k + 1) := by
  have h1 := extL_ge (L := L) (o := o) h
  generalize extL L o d = E at *
  unfold midL
  have hl : (E.take o ++ d.take k).length = o + k := by simp; omega
  rw [List.set_append_right _ _ (by omega), hl, Nat.sub_self]
  rw [List.drop_eq_getElem_cons h1, List.set_cons_zero]
  simp [List.getD_eq_getElem?_getD, List.getElem?_eq_getElem h, Nat.add_assoc]
  rw [List.take_succ_eq_append_getElem h, List.append_assoc, List.singleton_append]
theorem midL_length {L : List UInt8} {o : Nat} {d : List UInt8} {k : Nat} (h : k < d.length) : o + k < (midL (extL L o d) o d k).length := by
  have h1 := extL_ge (L := L) (o := o) h
  simp only [midL, List.length_append, List.length_take, List.length_drop]
  omega
/-- At the end. -/
theorem final_eq {L : List UInt8} {c : Nat} (hL : L.length ≤ 4000) (hc : c ≤ 4000) : cutL (cutL L c) 4000 = (L ++ List.replicate (4000 - L.length) 0).take c ++ List.replicate (4000 - c) 0 := by
  rw [show cutL (cutL L c) 4000 = cutL L c ++ List.replicate (4000 - c) 0 by
    rcases Nat.lt_or_ge c 4000 with h | h
    · rw [cutL_ge (by rw [cutL_length]; exact h), cutL_length]
    · obtain rfl : c = 4000 := by omega
      rw [cutL_le (by rw [cutL_length]; omega)]; simp [List.take_of_length_le, cutL_length]]
  congr 1
  rw [cutL, List.take_append, List.take_replicate]
  congr 2
  omega

theorem ext_done {L s : List UInt8} {o y : Nat} (hs : s ≠ []) (h : y = 0 ∨ L.length + y ≤ o + s.length) (h2 : o + s.length ≤ L.length + y) : L ++ List.replicate y 0 = extL L o s := by
  rw [extL, if_neg hs]
  rcases Nat.eq_zero_or_pos y with rfl | hy
  · rw [cutL_le (by omega), List.take_of_length_le (by omega)]; simp
  · rw [cutL_ge (by omega), show max L.length (o + s.length) - L.length = y by omega]
theorem ext_nil {L s : List UInt8} {o y : Nat} (hs : ¬ s ≠ []) (h : y = 0 ∨ (s ≠ [] ∧ L.length + y ≤ o + s.length)) : L ++ List.replicate y 0 = extL L o s := by
  rcases h with rfl | h
  · rw [extL, if_pos (by simpa using hs)]; simp
  · exact absurd h.1 hs
theorem rep_step (L : List UInt8) (y : Nat) : L ++ List.replicate (y + 1) 0 = (L ++ List.replicate y 0) ++ [0] := by rw [List.replicate_succ', List.append_assoc]
theorem zer_step {E : List UInt8} {c k : Nat} (hE : E.length = 4000) (hc : c ≤ k) (hk : k < 4000) : ((E.take c ++ List.replicate (k - c) 0) ++ E.drop k).set k 0 = (E.take c ++ List.replicate (k + 1 - c) 0) ++ E.drop (k + 1) := by
  have hl : (E.take c ++ List.replicate (k - c) (0 : UInt8)).length = k := by simp; omega
  rw [List.set_append_right _ _ (by omega), hl, Nat.sub_self, List.drop_eq_getElem_cons (by omega), List.set_cons_zero, show k + 1 - c = (k - c) + 1 by omega, rep_step]
  simp
theorem zer_start {E : List UInt8} {c : Nat} : (E.take c ++ List.replicate (c - c) 0) ++ E.drop c = E := by simp

theorem coraclelaw13_CoreBytes_fn (w0 : World) (v0 v1 : Value) (l0 l1 : List Dv) (cut : Int) (hr0 : Rd w0 140737488351232 (.sl (.int .i64) 8) [v0] (.sl l0)) (hr1 : Rd w0 140737488351232 (.sl .str 16) [v1] (.sl l1)) : Does P F_coraclelaw13_CoreBytes [v0, v1, I cut] [old w0] fun u cs => u = B true ∧ cs = [old w0] := by
  refine Does.mk (N := 177) fn_coraclelaw13_CoreBytes rfl rfl rfl (fun F => ?_)
  simp only [List.cons_append, List.nil_append]
  obtain ⟨hl0, ⟨p0, c0, rfl⟩, hin0⟩ := ints_read hr0
  obtain ⟨hl1, ⟨p1, c1, rfl⟩, hin1⟩ := strs_read hr1
  refine XC.seq ?_
  refine XC.reg ?_
  refine XL.as rfl rfl ?_
  refine XL.nil ?_
  refine XQ.thenN ?_
  refine XC.seq ?_
  refine XC.seq ?_
  refine XC.reg ?_
  refine XL.call hb_coraclelaw13_speaks rfl rfl (coraclelaw13_speaks_fn) (tn) ?_
  rintro _ _ ⟨rfl, rfl⟩
  simp only [List.cons_append, List.nil_append]
  refine XL.notT rfl rfl ?_
  refine XL.nil ?_
  refine XQ.thenN ?_
  refine XC.condF' rfl (rfl) ?_
  refine XC.skip ?_
  refine XQ.thenN ?_
  refine XC.seq ?_
  refine XC.reg ?_
  refine XL.call hb_core_New rfl rfl (core_New_fn 1) (tn) ?_
  rintro _ _ ⟨f, vm, vt, b, d, rfl, rfl⟩
  simp only [List.cons_append, List.nil_append]
  refine XL.as rfl rfl ?_
  refine XL.nil ?_
  refine XQ.thenN ?_
  refine XC.seq ?_
  refine XC.reg ?_
  refine XL.bd z_core_Caller p_core_Caller rfl rfl ?_
  refine XL.al z_core_Caller rfl (fun b8 => ?_)
  refine XL.stM g_core_Caller rfl rfl rfl (by rfl) rfl ?_
  refine XL.nil ?_
  refine XQ.thenN ?_
  refine XC.seq ?_
  refine XC.reg ?_
  refine XL.mv rfl rfl ?_
  refine XL.ldM g_core_Caller rfl (by rfl) rfl ?_
  refine XL.bd z_attr_Set p_attr_Set rfl rfl ?_
  refine XL.call hb_core_FS_Create rfl rfl (core_FS_Create_new0_fn f vm vt 1 [(1, pt b)] b d (rootN 1) [102] (by decide) 1 rfl rfl 2 [] check_f) (Tk.take (by repeat constructor)) ?_
  rintro _ _ ⟨x, rfl, rfl⟩
  simp only [List.cons_append, List.nil_append]
  refine XL.mv rfl rfl ?_
  refine XL.ex rfl rfl rfl ?_
  refine XL.ex rfl rfl rfl ?_
  refine XL.as rfl rfl ?_
  refine XL.as rfl rfl ?_
  refine XL.nil ?_
  refine XQ.thenN ?_
  refine XC.seq ?_
  refine XC.seq ?_
  refine XC.reg ?_
  refine XL.mv rfl rfl ?_
  refine XL.bin rfl rfl rfl (bNeI) ?_
  refine XL.nil ?_
  refine XQ.thenN ?_
  refine XC.condF' rfl (rfl) ?_
  refine XC.skip ?_
  refine XQ.thenN ?_
  refine XC.seq ?_
  refine XC.reg ?_
  refine XL.as rfl rfl ?_
  refine XL.nil ?_
  refine XQ.thenN ?_
  refine XC.seqJ (ι := Nat × List UInt8 × Value) (fun z => [(0, .slice p0 l0.length c0), (1, .slice p1 l1.length c1), (2, I cut), (7, pt f), (8, pt b8), (9, I (1 + 1)), (11, z.2.2)]) (fun z => [fileC x z.2.1, fsc f vm vt (1 + 1), mapC vm encKI (setM [(1, pt b)] (1 + 1) (pt x)), metC vt, blk b8 (cl 2) T_core_Caller, sl z.2.2 encB z.2.1 T_uint8 1, old w0, F]) (fun z => z.2.1.length ≤ 3500) ?_ (fun z hz => ?_)
  · refine XC.seq ?_
    refine XC.reg ?_
    refine XL.as rfl rfl ?_
    refine XL.nil ?_
    refine XQ.thenN ?_
    refine XC.block ?_
    refine XC.loop (ι := Nat × List UInt8 × Value) (fun z => [(0, .slice p0 l0.length c0), (1, .slice p1 l1.length c1), (2, I cut), (7, pt f), (8, pt b8), (9, I (1 + 1)), (11, z.2.2), (12, I (z.1 : Int))]) (fun z => [fileC x z.2.1, fsc f vm vt (1 + 1), mapC vm encKI (setM [(1, pt b)] (1 + 1) (pt x)), metC vt, blk b8 (cl 2) T_core_Caller, sl z.2.2 encB z.2.1 T_uint8 1, old w0, F]) (fun z => z.2.1.length ≤ 3500) (fun z => 40 - z.1) (0, [], nilS) (by simp) ⟨rfl, rfl, rfl, rfl, rfl, rfl, rfl, rfl, trivial⟩ (fun w h => prm (by repeat constructor) _ (sl_nil (enc := encB) (e := T_uint8) (sz := 1) (fileC_shut (L := []) (n := (newN 1 420 1 (1 + 1) 2 [] 0)) (r := [fsc f vm vt (1 + 1), mapC vm encKI (setM [(1, pt b)] (1 + 1) (pt x)), metC vt, blk b8 (cl 2) T_core_Caller, old w0, F]) ⟨rfl, rfl, rfl⟩ (prm (by repeat constructor) _ h)))) (fun z hz => ?_)
    refine XC.seq ?_
    refine XC.seq ?_
    refine XC.reg ?_
    refine XL.mv rfl rfl ?_
    refine XL.mv rfl rfl ?_
    refine XL.lenW e_L_int rfl rfl ?_
    refine XL.bin rfl rfl rfl (bLss) ?_
    refine XL.mv rfl rfl ?_
    refine XL.split 40 rfl (fun hg40 => ?_) (fun hg40 => ?_)
    · refine XL.mv rfl rfl ?_
      refine XL.mv rfl rfl ?_
      refine XL.lenW e_L_string rfl rfl ?_
      refine XL.bin rfl rfl rfl (bLss) ?_
      refine XL.pkT rfl rfl rfl ?_
      refine XL.mv rfl rfl ?_
      refine XL.split 46 rfl (fun hg46 => ?_) (fun hg46 => ?_)
      · refine XL.mv rfl rfl ?_
        refine XL.bin rfl rfl rfl (bLss) ?_
        refine XL.pkT rfl rfl rfl ?_
        refine XL.nil ?_
        refine XQ.thenN ?_
        refine XC.cond rfl (fun hc2 => ?_) (fun hc2 => ?_)
        · refine XC.skip ?_
          refine XQ.thenN ?_
          refine XC.seq ?_
          refine XC.block ?_
          refine XC.seq ?_
          have hlt0 : z.1 < l0.length := by omega
          have hlt1 : z.1 < l1.length := by omega
          obtain ⟨bi, oi, ci, a, hi0⟩ := hin0 z.1 hlt0
          obtain ⟨bs, os, cs, t, hi1⟩ := hin1 z.1 hlt1
          obtain ⟨o, ho, ho2, ho3, ho4⟩ := rem3000 a
          refine XC.re 0 (u := .slice (some ⟨bi, oi, none⟩) l0.length ci) rfl hi0.v ?_
          refine XC.re 1 (u := .slice (some ⟨bs, os, none⟩) l1.length cs) rfl hi1.v ?_
          refine XC.reg ?_
          refine XL.mv rfl rfl ?_
          refine XL.mv rfl rfl ?_
          refine XL.ixO z.1 e_L_int rfl rfl rfl hlt0 rfl ?_
          refine XL.ldO o_int rfl hi0.c rfl ?_
          refine XL.bin rfl rfl rfl (bRemT (by decide)) ?_
          refine XL.bin rfl rfl rfl (bAdd (by omega)) ?_
          refine XL.bin rfl rfl rfl (bRemT (by decide)) ?_
          refine XL.re 58 (u := I (o : Int)) rfl (congrArg (Value.int .i64) ho) ?_
          refine XL.as rfl rfl ?_
          refine XL.nil ?_
          refine XQ.thenN ?_
          refine XC.seq ?_
          refine XC.drw (.q 0 <| .q 1 <| .q 2 <| .q 3 <| .q 4 <| .q 5 <| .q 6 <| .q 7 <| .q 8 <| .q 9 <| .q 10 <| .e 11 <| .done) mixed (by kernel_rfl) rfl ?_
          refine JP.qq rfl rfl rfl (XL.mv rfl rfl XL.qd) ?_
          refine JP.qq rfl rfl rfl (XL.mv rfl rfl XL.qd) ?_
          refine JP.qq rfl rfl rfl (XL.ixO z.1 e_L_string rfl rfl rfl hlt1 rfl XL.qd) ?_
          refine JP.qq rfl rfl rfl (XL.ldO o_string rfl hi1.c rfl XL.qd) ?_
          refine JP.qq rfl rfl rfl (XL.mv rfl rfl XL.qd) ?_
          refine JP.qq rfl rfl rfl (XL.mv rfl rfl XL.qd) ?_
          refine JP.qq rfl rfl rfl (XL.ixO z.1 e_L_string rfl rfl rfl hlt1 rfl XL.qd) ?_
          refine JP.qq rfl rfl rfl (XL.ldO o_string rfl hi1.c rfl XL.qd) ?_
          refine JP.qq rfl rfl rfl (XL.lenT u_string rfl rfl XL.qd) ?_
          refine JP.qq rfl rfl rfl (XL.mn rfl rfl rfl XL.qd) ?_
          refine JP.re 68 (u := I ((min t.length 500 : Nat) : Int)) rfl (congrArg (Value.int .i64) (by omega)) ?_
          refine JP.qq rfl rfl rfl (XL.slT 0 (min t.length 500) u_string rfl rfl ⟨_, rfl⟩ (by omega) (by omega) rfl XL.qd) ?_
          refine JP.ee rfl ?_
          refine XL.as rfl rfl ?_
          refine XL.ed ?_
          refine JP.done ?_
          refine XQ.thenN ?_
          refine XC.seq ?_
          refine XC.seq ?_
          obtain ⟨s, hs⟩ : ∃ s, (t.take (min t.length 500)).drop 0 = s := ⟨_, rfl⟩
          have hsl : s.length ≤ 500 := by rw [← hs]; simp; omega
          refine XC.re 14 (u := S s) rfl (congrArg (fun l => S l) hs) ?_
          refine XC.re 0 (u := .slice p0 l0.length c0) rfl hi0.v.symm ?_
          refine XC.re 1 (u := .slice p1 l1.length c1) rfl hi1.v.symm ?_
          refine XC.reg ?_
          refine XL.mv rfl rfl ?_
          refine XL.ldM g_core_Caller rfl (by rfl) rfl ?_
          refine XL.mv rfl rfl ?_
          refine XL.mv rfl rfl ?_
          refine XL.mv rfl rfl ?_
          refine XL.call hb_core_FS_Write rfl rfl (file_write f vm vt (1 + 1) (setM [(1, pt b)] (1 + 1) (pt x)) (1 + 1) x rfl 2 z.2.1 o s (by omega) (by omega) (by omega)) (Tk.take (by repeat constructor)) ?_
          rintro _ _ ⟨rfl, rfl⟩
          simp only [List.cons_append, List.nil_append]
          refine XL.bin rfl rfl rfl (bNeI) ?_
          refine XL.nil ?_
          refine XQ.thenN ?_
          refine XC.condF' rfl (rfl) ?_
          refine XC.skip ?_
          refine XQ.thenN ?_
          refine XC.seqJ (ι := Value) (fun va => [(0, .slice p0 l0.length c0), (1, .slice p1 l1.length c1), (2, I cut), (7, pt f), (8, pt b8), (9, I (1 + 1)), (11, va), (12, I (z.1 : Int)), (13, I (o : Int)), (14, S s)]) (fun va => [fileC x (wrL z.2.1 o s), fsc f vm vt (1 + 1), mapC vm encKI (setM [(1, pt b)] (1 + 1) (pt x)), metC vt, blk b8 (cl 2) T_core_Caller, sl va encB (extL z.2.1 o s) T_uint8 1, old w0, F]) (fun _ => True) ?_ (fun va _ => ?_)
          · refine XC.block ?_
            refine XC.loop (ι := Nat × Value) (fun y => [(0, .slice p0 l0.length c0), (1, .slice p1 l1.length c1), (2, I cut), (7, pt f), (8, pt b8), (9, I (1 + 1)), (11, y.2), (12, I (z.1 : Int)), (13, I (o : Int)), (14, S s)]) (fun y => [fileC x (wrL z.2.1 o s), fsc f vm vt (1 + 1), mapC vm encKI (setM [(1, pt b)] (1 + 1) (pt x)), metC vt, blk b8 (cl 2) T_core_Caller, sl y.2 encB (z.2.1 ++ List.replicate y.1 0) T_uint8 1, old w0, F]) (fun y => y.1 = 0 ∨ (s ≠ [] ∧ z.2.1.length + y.1 ≤ o + s.length)) (fun y => o + s.length - (z.2.1.length + y.1)) (0, z.2.2) (.inl rfl) ⟨rfl, rfl, rfl, rfl, rfl, rfl, rfl, rfl, rfl, rfl, trivial⟩ (fun w h => by simp only [List.replicate_zero, List.append_nil]; exact prm (by repeat constructor) _ h) (fun y hy => ?_)
            refine XC.seq ?_
            refine XC.seq ?_
            refine XC.reg ?_
            refine XL.mv rfl rfl ?_
            refine XL.bin rfl rfl rfl (bNeS) ?_
            refine XL.mv rfl rfl ?_
            refine XL.split 79 rfl (fun hg79 => ?_) (fun hg79 => ?_)
            · refine XL.mv rfl rfl ?_
              refine XL.lenS e_L_uint8 rfl rfl ?_
              refine XL.mv rfl rfl ?_
              refine XL.mv rfl rfl ?_
              refine XL.lenT u_string rfl rfl ?_
              refine XL.bin rfl rfl rfl (bAdd (by omega)) ?_
              refine XL.bin rfl rfl rfl (bLss) ?_
              refine XL.pkT rfl rfl rfl ?_
              refine XL.nil ?_
              refine XQ.thenN ?_
              refine XC.cond rfl (fun hc4 => ?_) (fun hc4 => ?_)
              · refine XC.skip ?_
                refine XQ.thenN ?_
                refine XC.block ?_
                simp only [List.length_append, List.length_replicate] at hc4
                have hz2 : z.2.1.length + y.1 < 4000 := by omega
                refine XC.reg ?_
                refine XL.mv rfl rfl ?_
                refine XL.bs (enc := encB) [0] e_L_uint8 z_uint8 rfl rfl rfl (by intro x hx; rfl) rfl (fun v89 _ => ?_)
                refine XL.app [0] e_L_uint8 e_L_uint8 z_uint8 rfl rfl rfl rfl (fun x _ => rfl) (by have := hz2; simp only [List.length_append, List.length_replicate, List.length_singleton]; omega) rfl (fun v90 _ => ?_)
                refine XL.as rfl rfl ?_
                refine XL.nil ?_
                refine XQ.blkN ?_
                exact XQ.again (y.1 + 1, v90) (.inr ⟨hg79, by dsimp only; omega⟩) (by dsimp only; omega) ⟨rfl, rfl, rfl, rfl, rfl, rfl, rfl, rfl, rfl, rfl, trivial⟩ (fun w h => by rw [rep_step]; exact prm (by repeat constructor) _ h)
              · refine XC.exit ?_
                refine XQ.thenE ?_
                refine XQ.thenE ?_
                refine XQ.blkE ?_
                simp only [List.length_append, List.length_replicate] at hc4
                have hx := ext_done (L := z.2.1) (o := o) (y := y.1) hg79 (hy.imp_right And.right) (by omega)
                exact XQ.join y.2 trivial ⟨rfl, rfl, rfl, rfl, rfl, rfl, rfl, rfl, rfl, rfl, trivial⟩ (fun w h => by rw [hx] at h; exact prm (by repeat constructor) _ h)
            · refine XL.no rfl rfl ?_
              refine XL.no rfl rfl ?_
              refine XL.no rfl rfl ?_
              refine XL.no rfl rfl ?_
              refine XL.no rfl rfl ?_
              refine XL.no rfl rfl ?_
              refine XL.no rfl rfl ?_
              refine XL.pkF rfl rfl rfl ?_
              refine XL.nil ?_
              refine XQ.thenN ?_
              refine XC.condF rfl ?_
              refine XC.exit ?_
              refine XQ.thenE ?_
              refine XQ.thenE ?_
              refine XQ.blkE ?_
              have hx := ext_nil (L := z.2.1) (o := o) hg79 hy
              
              exact XQ.join y.2 trivial ⟨rfl, rfl, rfl, rfl, rfl, rfl, rfl, rfl, rfl, rfl, trivial⟩ (fun w h => by rw [hx] at h; exact prm (by repeat constructor) _ h)
          · refine XC.seq ?_
            refine XC.reg ?_
            refine XL.as rfl rfl ?_
            refine XL.nil ?_
            refine XQ.thenN ?_
            refine XC.block ?_
            refine XC.loop (ι := Nat) (fun k => [(0, .slice p0 l0.length c0), (1, .slice p1 l1.length c1), (2, I cut), (7, pt f), (8, pt b8), (9, I (1 + 1)), (11, va), (12, I (z.1 : Int)), (13, I (o : Int)), (14, S s), (15, I (k : Int))]) (fun k => [fileC x (wrL z.2.1 o s), fsc f vm vt (1 + 1), mapC vm encKI (setM [(1, pt b)] (1 + 1) (pt x)), metC vt, blk b8 (cl 2) T_core_Caller, sl va encB (midL (extL z.2.1 o s) o s k) T_uint8 1, old w0, F]) (fun k => k ≤ s.length) (fun k => s.length - k) 0 (Nat.zero_le _) ⟨rfl, rfl, rfl, rfl, rfl, rfl, rfl, rfl, rfl, rfl, rfl, trivial⟩ (fun w h => by rw [midL_zero]; exact prm (by repeat constructor) _ h) (fun k hk => ?_)
            refine XC.seq ?_
            refine XC.seq ?_
            refine XC.reg ?_
            refine XL.mv rfl rfl ?_
            refine XL.mv rfl rfl ?_
            refine XL.lenT u_string rfl rfl ?_
            refine XL.bin rfl rfl rfl (bLss) ?_
            refine XL.nil ?_
            refine XQ.thenN ?_
            refine XC.cond rfl (fun hc5 => ?_) (fun hc5 => ?_)
            · refine XC.skip ?_
              refine XQ.thenN ?_
              refine XC.seq ?_
              refine XC.block ?_
              refine XC.reg ?_
              refine XL.mv rfl rfl ?_
              refine XL.mv rfl rfl ?_
              refine XL.mv rfl rfl ?_
              refine XL.bin rfl rfl rfl (bAdd (by omega)) ?_
              refine XL.mv rfl rfl ?_
              refine XL.mv rfl rfl ?_
              refine XL.ixT k u_string rfl rfl rfl (by omega) rfl ?_
              refine XL.ixS (o + k) e_L_uint8 rfl rfl (by omega) (midL_length (by omega)) rfl (fun b104 _ => ?_)
              refine XL.stS1 (s.getD k 0) o_uint8 rfl rfl (midL_length (by omega)) rfl rfl ?_
              refine XL.nil ?_
              refine XQ.blkN ?_
              refine XQ.thenN ?_
              refine XC.reg ?_
              refine XL.mv rfl rfl ?_
              refine XL.bin rfl rfl rfl (bAdd (by omega)) ?_
              refine XL.as rfl rfl ?_
              refine XL.nil ?_
              exact XQ.again (k + 1) (by omega) (by omega) ⟨rfl, rfl, rfl, rfl, rfl, rfl, rfl, rfl, rfl, rfl, rfl, trivial⟩ (fun w h => by rw [midL_step (by omega)] at h; exact prm (by repeat constructor) _ h)
            · refine XC.exit ?_
              refine XQ.thenE ?_
              refine XQ.thenE ?_
              refine XQ.blkE ?_
              refine XQ.blkN ?_
              refine XQ.thenN ?_
              refine XC.reg ?_
              refine XL.mv rfl rfl ?_
              refine XL.bin rfl rfl rfl (bAdd (by omega)) ?_
              refine XL.as rfl rfl ?_
              refine XL.nil ?_
              obtain rfl : k = s.length := by omega
              exact XQ.again (z.1 + 1, wrL z.2.1 o s, va) (by have := wrL_le z.2.1 o s; dsimp only; omega) (by dsimp only; omega) ⟨rfl, rfl, rfl, rfl, rfl, rfl, rfl, rfl, trivial⟩ (fun w h => by rw [midL_end] at h; exact prm (by repeat constructor) _ h)
        · refine XC.exit ?_
          refine XQ.thenE ?_
          refine XQ.thenE ?_
          refine XQ.blkE ?_
          exact XQ.join z hz ⟨rfl, rfl, rfl, rfl, rfl, rfl, rfl, trivial⟩ (prm (by repeat constructor))
      · refine XL.no rfl rfl ?_
        refine XL.no rfl rfl ?_
        refine XL.pkF rfl rfl rfl ?_
        refine XL.nil ?_
        refine XQ.thenN ?_
        refine XC.condF rfl ?_
        refine XC.exit ?_
        refine XQ.thenE ?_
        refine XQ.thenE ?_
        refine XQ.blkE ?_
        exact XQ.join z hz ⟨rfl, rfl, rfl, rfl, rfl, rfl, rfl, trivial⟩ (prm (by repeat constructor))
    · refine XL.no rfl rfl ?_
      refine XL.no rfl rfl ?_
      refine XL.no rfl rfl ?_
      refine XL.no rfl rfl ?_
      refine XL.pkF rfl rfl rfl ?_
      refine XL.mv rfl rfl ?_
      refine XL.no rfl rfl ?_
      refine XL.no rfl rfl ?_
      refine XL.pkF rfl rfl rfl ?_
      refine XL.nil ?_
      refine XQ.thenN ?_
      refine XC.condF rfl ?_
      refine XC.exit ?_
      refine XQ.thenE ?_
      refine XQ.thenE ?_
      refine XQ.blkE ?_
      exact XQ.join z hz ⟨rfl, rfl, rfl, rfl, rfl, rfl, rfl, trivial⟩ (prm (by repeat constructor))
  · refine XC.seqJ (ι := Nat) (fun c => [(0, .slice p0 l0.length c0), (1, .slice p1 l1.length c1), (2, I (c : Int)), (7, pt f), (8, pt b8), (9, I (1 + 1)), (11, z.2.2)]) (fun _ => [fileC x z.2.1, fsc f vm vt (1 + 1), mapC vm encKI (setM [(1, pt b)] (1 + 1) (pt x)), metC vt, blk b8 (cl 2) T_core_Caller, sl z.2.2 encB z.2.1 T_uint8 1, old w0, F]) (fun c => c ≤ 4000) ?_ (fun c hc => ?_)
    · refine XC.seq ?_
      refine XC.reg ?_
      refine XL.mv rfl rfl ?_
      refine XL.bin rfl rfl rfl (bLss) ?_
      refine XL.mv rfl rfl ?_
      refine XL.split 107 rfl (fun hg107 => ?_) (fun hg107 => ?_)
      · refine XL.no rfl rfl ?_
        refine XL.no rfl rfl ?_
        refine XL.pkT rfl rfl rfl ?_
        refine XL.nil ?_
        refine XQ.thenN ?_
        refine XC.condT rfl ?_
        refine XC.reg ?_
        refine XL.as rfl rfl ?_
        refine XL.nil ?_
        exact XQ.join 100 (by decide) ⟨rfl, rfl, rfl, rfl, rfl, rfl, rfl, trivial⟩ (prm (by repeat constructor))
      · refine XL.mv rfl rfl ?_
        refine XL.bin rfl rfl rfl (bGtr) ?_
        refine XL.pkF rfl rfl rfl ?_
        refine XL.nil ?_
        refine XQ.thenN ?_
        refine XC.cond rfl (fun hc6 => ?_) (fun hc6 => ?_)
        · refine XC.reg ?_
          refine XL.as rfl rfl ?_
          refine XL.nil ?_
          exact XQ.join 100 (by decide) ⟨rfl, rfl, rfl, rfl, rfl, rfl, rfl, trivial⟩ (prm (by repeat constructor))
        · refine XC.skip ?_
          obtain ⟨c, rfl⟩ : ∃ c : Nat, cut = (c : Int) := ⟨cut.toNat, by omega⟩
          exact XQ.join c (by omega) ⟨rfl, rfl, rfl, rfl, rfl, rfl, rfl, trivial⟩ (prm (by repeat constructor))
    · refine XC.seq ?_
      refine XC.reg ?_
      refine XL.mv rfl rfl ?_
      refine XL.ldM g_core_Caller rfl (by rfl) rfl ?_
      refine XL.mv rfl rfl ?_
      refine XL.call hb_core_FS_Read rfl rfl (file_read f vm vt (1 + 1) (setM [(1, pt b)] (1 + 1) (pt x)) (1 + 1) x rfl 2 z.2.1 (by omega)) (Tk.take (by repeat constructor)) ?_
      rintro _ _ ⟨rfl, rfl⟩
      simp only [List.cons_append, List.nil_append]
      refine XL.mv rfl rfl ?_
      refine XL.ex rfl rfl rfl ?_
      refine XL.ex rfl rfl rfl ?_
      refine XL.ex rfl rfl rfl ?_
      refine XL.as rfl rfl ?_
      refine XL.as rfl rfl ?_
      refine XL.as rfl rfl ?_
      refine XL.nil ?_
      refine XQ.thenN ?_
      refine XC.seq ?_
      refine XC.seq ?_
      refine XC.reg ?_
      refine XL.mv rfl rfl ?_
      refine XL.bin rfl rfl rfl (bNeI) ?_
      refine XL.mv rfl rfl ?_
      refine XL.re 121 (u := .bool false) rfl (rfl) ?_
      refine XL.mv rfl rfl ?_
      refine XL.mv rfl rfl ?_
      refine XL.cvV u_L_uint8 u_uint8 u_string rfl rfl ?_
      refine XL.bin rfl rfl rfl (bNeS) ?_
      refine XL.pkF rfl rfl rfl ?_
      refine XL.mv rfl rfl ?_
      refine XL.re 127 (u := .bool false) rfl (congrArg Value.bool (decide_eq_false (fun h => h rfl))) ?_
      refine XL.mv rfl rfl ?_
      refine XL.ldM g_core_Caller rfl (by rfl) rfl ?_
      refine XL.mv rfl rfl ?_
      refine XL.mv rfl rfl ?_
      refine XL.bd z_attr_Set p_attr_Set rfl rfl ?_
      refine XL.call hb_core_FS_SetAttr rfl rfl (file_size f vm vt (1 + 1) (setM [(1, pt b)] (1 + 1) (pt x)) (1 + 1) x rfl 2 z.2.1 c (by omega) (by omega)) (Tk.take (by repeat constructor)) ?_
      rintro _ _ ⟨rfl, rfl⟩
      simp only [List.cons_append, List.nil_append]
      refine XL.bin rfl rfl rfl (bNeI) ?_
      refine XL.pkF rfl rfl rfl ?_
      refine XL.mv rfl rfl ?_
      refine XL.re 136 (u := .bool false) rfl (rfl) ?_
      refine XL.mv rfl rfl ?_
      refine XL.ldM g_core_Caller rfl (by rfl) rfl ?_
      refine XL.mv rfl rfl ?_
      refine XL.bd z_attr_Set p_attr_Set rfl rfl ?_
      refine XL.call hb_core_FS_SetAttr rfl rfl (file_size f vm vt (1 + 1) (setM [(1, pt b)] (1 + 1) (pt x)) (1 + 1) x rfl 2 (cutL z.2.1 c) 4000 (by rw [cutL_length]; omega) (by omega)) (Tk.take (by repeat constructor)) ?_
      rintro _ _ ⟨rfl, rfl⟩
      simp only [List.cons_append, List.nil_append]
      refine XL.bin rfl rfl rfl (bNeI) ?_
      refine XL.pkF rfl rfl rfl ?_
      refine XL.nil ?_
      refine XQ.thenN ?_
      refine XC.condF' rfl (rfl) ?_
      refine XC.skip ?_
      refine XQ.thenN ?_
      refine XC.seq ?_
      refine XC.reg ?_
      refine XL.mv rfl rfl ?_
      refine XL.ldM g_core_Caller rfl (by rfl) rfl ?_
      refine XL.mv rfl rfl ?_
      refine XL.call hb_core_FS_Read rfl rfl (file_read f vm vt (1 + 1) (setM [(1, pt b)] (1 + 1) (pt x)) (1 + 1) x rfl 2 (cutL (cutL z.2.1 c) 4000) (by rw [cutL_length]; omega)) (Tk.take (by repeat constructor)) ?_
      rintro _ _ ⟨rfl, rfl⟩
      simp only [List.cons_append, List.nil_append]
      refine XL.mv rfl rfl ?_
      refine XL.ex rfl rfl rfl ?_
      refine XL.ex rfl rfl rfl ?_
      refine XL.ex rfl rfl rfl ?_
      refine XL.as rfl rfl ?_
      refine XL.as rfl rfl ?_
      refine XL.as rfl rfl ?_
      refine XL.nil ?_
      refine XQ.thenN ?_
      refine XC.seq ?_
      refine XC.block ?_
      refine XC.loop (ι := Nat × Value) (fun y => [(0, .slice p0 l0.length c0), (1, .slice p1 l1.length c1), (2, I (c : Int)), (7, pt f), (8, pt b8), (9, I (1 + 1)), (11, y.2), (19, S (cutL (cutL z.2.1 c) 4000)), (20, B true), (21, I 0)]) (fun y => [fileC x (cutL (cutL z.2.1 c) 4000), fsc f vm vt (1 + 1), mapC vm encKI (setM [(1, pt b)] (1 + 1) (pt x)), metC vt, blk b8 (cl 2) T_core_Caller, sl y.2 encB (z.2.1 ++ List.replicate y.1 0) T_uint8 1, old w0, F]) (fun y => z.2.1.length + y.1 ≤ 4000) (fun y => 4000 - (z.2.1.length + y.1)) (0, z.2.2) (by dsimp only; omega) ⟨rfl, rfl, rfl, rfl, rfl, rfl, rfl, rfl, rfl, rfl, trivial⟩ (fun w h => by simp only [List.replicate_zero, List.append_nil]; exact prm (by repeat constructor) _ h) (fun y hy => ?_)
      refine XC.seq ?_
      refine XC.seq ?_
      refine XC.reg ?_
      refine XL.mv rfl rfl ?_
      refine XL.lenS e_L_uint8 rfl rfl ?_
      refine XL.bin rfl rfl rfl (bLss) ?_
      refine XL.nil ?_
      refine XQ.thenN ?_
      refine XC.cond rfl (fun hc8 => ?_) (fun hc8 => ?_)
      · refine XC.skip ?_
        refine XQ.thenN ?_
        refine XC.block ?_
        simp only [List.length_append, List.length_replicate] at hc8
        have hz2 : z.2.1.length + y.1 < 4000 := by omega
        refine XC.reg ?_
        refine XL.mv rfl rfl ?_
        refine XL.bs (enc := encB) [0] e_L_uint8 z_uint8 rfl rfl rfl (by intro x hx; rfl) rfl (fun v156 _ => ?_)
        refine XL.app [0] e_L_uint8 e_L_uint8 z_uint8 rfl rfl rfl rfl (fun x _ => rfl) (by have := hz2; simp only [List.length_append, List.length_replicate, List.length_singleton]; omega) rfl (fun v157 _ => ?_)
        refine XL.as rfl rfl ?_
        refine XL.nil ?_
        refine XQ.blkN ?_
        exact XQ.again (y.1 + 1, v157) (by dsimp only; omega) (by dsimp only; omega) ⟨rfl, rfl, rfl, rfl, rfl, rfl, rfl, rfl, rfl, rfl, trivial⟩ (fun w h => by rw [rep_step]; exact prm (by repeat constructor) _ h)
      · refine XC.exit ?_
        refine XQ.thenE ?_
        refine XQ.thenE ?_
        refine XQ.blkE ?_
        refine XQ.thenN ?_
        refine XC.seq ?_
        refine XC.seq ?_
        simp only [List.length_append, List.length_replicate] at hc8
        obtain ⟨E, hE⟩ : ∃ E, z.2.1 ++ List.replicate y.1 0 = E := ⟨_, rfl⟩
        have hEl : E.length = 4000 := by rw [← hE, List.length_append, List.length_replicate]; omega
        rw [hE]
        refine XC.reg ?_
        refine XL.mv rfl rfl ?_
        refine XL.as rfl rfl ?_
        refine XL.nil ?_
        refine XQ.thenN ?_
        refine XC.block ?_
        refine XC.loop (ι := Nat) (fun k => [(0, .slice p0 l0.length c0), (1, .slice p1 l1.length c1), (2, I (c : Int)), (7, pt f), (8, pt b8), (9, I (1 + 1)), (11, y.2), (19, S (cutL (cutL z.2.1 c) 4000)), (20, B true), (21, I 0), (22, I (k : Int))]) (fun k => [fileC x (cutL (cutL z.2.1 c) 4000), fsc f vm vt (1 + 1), mapC vm encKI (setM [(1, pt b)] (1 + 1) (pt x)), metC vt, blk b8 (cl 2) T_core_Caller, sl y.2 encB ((E.take c ++ List.replicate (k - c) 0) ++ E.drop k) T_uint8 1, old w0, F]) (fun k => c ≤ k ∧ k ≤ 4000) (fun k => 4000 - k) c ⟨Nat.le_refl _, hc⟩ ⟨rfl, rfl, rfl, rfl, rfl, rfl, rfl, rfl, rfl, rfl, rfl, trivial⟩ (fun w h => by rw [zer_start]; exact prm (by repeat constructor) _ h) (fun k hk => ?_)
        refine XC.seq ?_
        refine XC.seq ?_
        refine XC.reg ?_
        refine XL.mv rfl rfl ?_
        refine XL.bin rfl rfl rfl (bLss) ?_
        refine XL.nil ?_
        refine XQ.thenN ?_
        refine XC.cond rfl (fun hc9 => ?_) (fun hc9 => ?_)
        · refine XC.skip ?_
          refine XQ.thenN ?_
          refine XC.seq ?_
          refine XC.block ?_
          have hlen : (((E.take c ++ List.replicate (k - c) 0) ++ E.drop k : List UInt8)).length = 4000 := by simp only [List.length_append, List.length_take, List.length_replicate, List.length_drop]; omega
          refine XC.reg ?_
          refine XL.mv rfl rfl ?_
          refine XL.mv rfl rfl ?_
          refine XL.ixS k e_L_uint8 rfl rfl rfl (by rw [hlen]; omega) rfl (fun b165 _ => ?_)
          refine XL.stS1 (0 : UInt8) o_uint8 rfl rfl (by rw [hlen]; omega) rfl rfl ?_
          refine XL.nil ?_
          refine XQ.blkN ?_
          refine XQ.thenN ?_
          refine XC.reg ?_
          refine XL.mv rfl rfl ?_
          refine XL.bin rfl rfl rfl (bAdd (by omega)) ?_
          refine XL.as rfl rfl ?_
          refine XL.nil ?_
          exact XQ.again (k + 1) (by omega) (by omega) ⟨rfl, rfl, rfl, rfl, rfl, rfl, rfl, rfl, rfl, rfl, rfl, trivial⟩ (fun w h => by rw [zer_step hEl hk.1 (by omega)] at h; exact prm (by repeat constructor) _ h)
        · refine XC.exit ?_
          refine XQ.thenE ?_
          refine XQ.thenE ?_
          refine XQ.blkE ?_
          refine XQ.thenN ?_
          refine XC.seq ?_
          obtain rfl : k = 4000 := by omega
          have heq : cutL (cutL z.2.1 c) 4000 = (E.take c ++ List.replicate (4000 - c) 0) ++ E.drop 4000 := by rw [final_eq (by omega) hc, List.drop_eq_nil_of_le (by omega), List.append_nil, ← hE, show y.1 = 4000 - z.2.1.length by omega]
          refine XC.reg ?_
          refine XL.mv rfl rfl ?_
          refine XL.bin rfl rfl rfl (bEqI) ?_
          refine XL.mv rfl rfl ?_
          refine XL.re 168 (u := .bool true) rfl (rfl) ?_
          refine XL.mv rfl rfl ?_
          refine XL.pkT rfl rfl rfl ?_
          refine XL.mv rfl rfl ?_
          refine XL.re 171 (u := .bool true) rfl (rfl) ?_
          refine XL.mv rfl rfl ?_
          refine XL.mv rfl rfl ?_
          refine XL.cvV u_L_uint8 u_uint8 u_string rfl rfl ?_
          refine XL.bin rfl rfl rfl (bEqS) ?_
          refine XL.pkT rfl rfl rfl ?_
          refine XL.as rfl rfl ?_
          refine XL.nil ?_
          refine XQ.thenN ?_
          refine XC.ret ?_
          exact XQ.ret (.inl rfl) rfl (rC (resT rfl) <| rN) [old w0] (⟨congrArg Value.bool (decide_eq_true heq), rfl⟩) ((prm (by repeat constructor)))
end Go.Proofs.YteeiccjglmehcaaGreat
