/-
  The statement SeglogFills. Printed by mk.py out of spec_k05q.py.
-/
import Derived.Test.YthlfbndanknnmaaDoorSxK05p
namespace Go.Proofs.YthlfbndanknnmaaDoor
open Go Go.Sx

def fbody (k : Nat) : List UInt8 := List.replicate (233 * k) 0
/-- So many records more, each of them taken. -/
def reR (k : Nat) (S0 : LogS) : Nat → Option LogS
  | 0 => some S0
  | n + 1 => match reR k S0 n with
    | none => none
    | some S => match appendM S (fbody k) with
      | (_, e, T) => if e = 0 then some T else none
theorem reR_zero {k : Nat} {S0 : LogS} : reR k S0 0 = some S0 := rfl
def fillD (k : Nat) (V : LogS) : Bool := match appendM V (fbody k) with
  | (_, e, T) => decide (e = 21) && match openL T.D with
    | (_, some (_, out)) => decide (out.length = 4 * (16 / k)) && (decide ((out.map (·.seq)).head? = some (16 / k)) && decide ((out.map (·.seq)).getLast? = some (5 * (16 / k) - 1)))
    | _ => false
def fillC (k : Nat) (T : LogS) : Bool := match T.c.segs with
  | [] => false
  | x :: _ => match dropM T x.1 with
    | (e, U) => decide (e = 0) && (decide (segsN U.D.now.length - U.c.segs.length = 1) && match reR k U (16 / k) with
      | none => false
      | some V => fillD k V)
def fillB (k : Nat) : Bool := match reR k spS1 (4 * (16 / k)) with
  | none => false
  | some S => match appendM S (fbody k) with
    | (_, e, T) => decide (e = 21) && (decide (segsN T.D.now.length - T.c.segs.length = 0) && fillC k T)
theorem fill_all : (List.range 16).all (fun i => fillB (i + 1)) = true := by kernel_rfl
theorem fill_at {k : Nat} (h1 : 1 ≤ k) (h2 : k ≤ 16) : fillB k = true := by
  have := List.all_eq_true.1 fill_all (k - 1) (List.mem_range.2 (by omega))
  rwa [show k - 1 + 1 = k by omega] at this
theorem reR_eq {k n : Nat} {S0 S : LogS} (h : reR k S0 n = some S) : reR k S0 (n + 1) = if (appendM S (fbody k)).2.1 = 0 then some (appendM S (fbody k)).2.2 else none := by
  rw [reR, h]
theorem fillD_eq (k : Nat) (V : LogS) : fillD k V = (decide ((appendM V (fbody k)).2.1 = 21) && match openL (appendM V (fbody k)).2.2.D with
    | (_, some (_, out)) => decide (out.length = 4 * (16 / k)) && (decide ((out.map (·.seq)).head? = some (16 / k)) && decide ((out.map (·.seq)).getLast? = some (5 * (16 / k) - 1)))
    | _ => false) := by
  unfold fillD
  generalize appendM V (fbody k) = r
  obtain ⟨a, e, T⟩ := r; rfl
theorem fillC_eq {k : Nat} {T : LogS} {x : Nat × Nat} {l : List (Nat × Nat)} (h : T.c.segs = x :: l) : fillC k T = (decide ((dropM T x.1).1 = 0) && (decide (segsN (dropM T x.1).2.D.now.length - (dropM T x.1).2.c.segs.length = 1) && match reR k (dropM T x.1).2 (16 / k) with
      | none => false
      | some V => fillD k V)) := by
  unfold fillC
  rw [h]
theorem fillB_eq {k : Nat} {S : LogS} (h : reR k spS1 (4 * (16 / k)) = some S) : fillB k = (decide ((appendM S (fbody k)).2.1 = 21) && (decide (segsN (appendM S (fbody k)).2.2.D.now.length - (appendM S (fbody k)).2.2.c.segs.length = 0) && fillC k (appendM S (fbody k)).2.2)) := by
  unfold fillB
  rw [h]
theorem reR_step {k n : Nat} {S0 S : LogS} (h : reR k S0 n = some S) (h0 : (appendM S (fbody k)).2.1 = 0) : reR k S0 (n + 1) = some (appendM S (fbody k)).2.2 := by
  rw [reR_eq h, if_pos h0]
theorem reR_none {k : Nat} {S0 : LogS} {n : Nat} (h : reR k S0 n = none) : ∀ j, reR k S0 (n + j) = none
  | 0 => h
  | j + 1 => by rw [← Nat.add_assoc, reR, reR_none h j]
/-- Short of the end the next record is taken. -/
theorem reR_ok {k n m : Nat} {S0 S T : LogS} (h : reR k S0 n = some S) (hm : reR k S0 m = some T) (hnm : n < m) : (appendM S (fbody k)).2.1 = 0 := by
  rcases Decidable.em ((appendM S (fbody k)).2.1 = 0) with h0 | h0
  · exact h0
  · have h1 : reR k S0 (n + 1) = none := by rw [reR_eq h, if_neg h0]
    have := reR_none h1 (m - (n + 1))
    rw [show n + 1 + (m - (n + 1)) = m by omega, hm] at this
    cases this
theorem fillB_of {k : Nat} (h : fillB k = true) : ∃ S, reR k spS1 (4 * (16 / k)) = some S ∧ (appendM S (fbody k)).2.1 = 21 ∧ segsN (appendM S (fbody k)).2.2.D.now.length - (appendM S (fbody k)).2.2.c.segs.length = 0 ∧ fillC k (appendM S (fbody k)).2.2 = true := by
  cases hS : reR k spS1 (4 * (16 / k)) with
  | none => unfold fillB at h; rw [hS] at h; cases h
  | some S =>
    rw [fillB_eq hS] at h
    simp only [Bool.and_eq_true, decide_eq_true_eq] at h
    exact ⟨S, rfl, h.1, h.2.1, h.2.2⟩
theorem fillC_of {k : Nat} {T : LogS} (h : fillC k T = true) : ∃ x l V, T.c.segs = x :: l ∧ (dropM T x.1).1 = 0 ∧ segsN (dropM T x.1).2.D.now.length - (dropM T x.1).2.c.segs.length = 1 ∧ reR k (dropM T x.1).2 (16 / k) = some V ∧ fillD k V = true := by
  cases hx : T.c.segs with
  | nil => unfold fillC at h; rw [hx] at h; cases h
  | cons x l =>
    rw [fillC_eq hx] at h
    simp only [Bool.and_eq_true, decide_eq_true_eq] at h
    obtain ⟨h1, h2, h3⟩ := h
    split at h3
    · cases h3
    · rename_i V hV
      exact ⟨x, l, V, rfl, h1, h2, hV, h3⟩
theorem fillD_of {k : Nat} {V : LogS} (h : fillD k V = true) : (appendM V (fbody k)).2.1 = 21 ∧ ∃ W out, openL (appendM V (fbody k)).2.2.D = (0, some (W, out)) ∧ out.length = 4 * (16 / k) ∧ (∀ h0 : 0 < out.length, (out[0]).seq = 16 / k) ∧ (∀ h0 : out.length - 1 < out.length, (out[out.length - 1]).seq = 5 * (16 / k) - 1) := by
  rw [fillD_eq] at h
  simp only [Bool.and_eq_true, decide_eq_true_eq] at h
  obtain ⟨h1, h2⟩ := h
  refine ⟨h1, ?_⟩
  split at h2
  · rename_i e W out ho
    simp only [Bool.and_eq_true, decide_eq_true_eq] at h2
    obtain ⟨c, p, o, _, _, he, _⟩ := openL_some ho
    subst he
    refine ⟨W, out, ho, h2.1, fun h0 => ?_, fun h0 => ?_⟩
    · have := h2.2.1
      rw [List.head?_eq_getElem?, List.getElem?_map, List.getElem?_eq_getElem h0] at this
      simpa using this
    · have := h2.2.2
      rw [List.getLast?_eq_getElem?, List.length_map, List.getElem?_map, List.getElem?_eq_getElem h0] at this
      simpa using this
  · cases h2
theorem reR_in {k : Nat} {S0 : LogS} (h0 : LogIn S0) : ∀ {n : Nat} {S : LogS}, reR k S0 n = some S → LogIn S ∧ S.D.now.length = S0.D.now.length
  | 0, S, h => by cases h; exact ⟨h0, rfl⟩
  | n + 1, S, h => by
    cases hT : reR k S0 n with
    | none => rw [reR_none (n := n) hT 1] at h; cases h
    | some T =>
      rw [reR_eq hT] at h
      split at h
      · have h1 := reR_in h0 hT
        have h2 := appendM_in h1.1 (fbody k)
        rw [← Option.some.inj h]
        exact ⟨h2.1, h2.2.trans h1.2⟩
      · cases h
theorem fbody_length (k : Nat) : (fbody k).length = 233 * k := by simp [fbody]
abbrev flT (k : Nat) (S : LogS) : LogS := (appendM S (fbody k)).2.2
abbrev flU (k : Nat) (S : LogS) (x : Nat × Nat) : LogS := (dropM (flT k S) x.1).2
/-- What the statement needs to know, for one size of a record. -/
structure FillOk (k q : Nat) (S : LogS) (x : Nat × Nat) (l : List (Nat × Nat)) (V W : LogS) (out : List RecS) : Prop where
  a : reR k spS1 (4 * (q)) = some S
  b : (appendM S (fbody k)).2.1 = 21
  c : segsN (appendM S (fbody k)).2.2.D.now.length - (appendM S (fbody k)).2.2.c.segs.length = 0
  d : (appendM S (fbody k)).2.2.c.segs = x :: l
  e : (dropM (appendM S (fbody k)).2.2 x.1).1 = 0
  g : segsN (dropM (appendM S (fbody k)).2.2 x.1).2.D.now.length - (dropM (appendM S (fbody k)).2.2 x.1).2.c.segs.length = 1
  h : reR k (dropM (appendM S (fbody k)).2.2 x.1).2 (q) = some V
  i : (appendM V (fbody k)).2.1 = 21
  j : openL (appendM V (fbody k)).2.2.D = (0, some (W, out))
  m : out.length = 4 * (q)
  n : ∀ h0 : 0 < out.length, (out[0]).seq = q
  o : ∀ h0 : out.length - 1 < out.length, (out[out.length - 1]).seq = 5 * (q) - 1
theorem fill_get {k : Nat} (h1 : 1 ≤ k) (h2 : k ≤ 16) : ∃ S x l V W out, FillOk k (16 / k) S x l V W out := by
  obtain ⟨S, a, b, c, hC⟩ := fillB_of (fill_at h1 h2)
  obtain ⟨x, l, V, d, e, g, h, hD⟩ := fillC_of hC
  obtain ⟨i, W, out, j, m, n, o⟩ := fillD_of hD
  exact ⟨S, x, l, V, W, out, a, b, c, d, e, g, h, i, j, m, n, o⟩

theorem coraclelaw05_SeglogFills_fn (n : Int) : Does P F_coraclelaw05_SeglogFills [.int .i64 n] [] fun v cs => v = .bool true ∧ cs = [] := by
  refine Does.mk (N := 144) fn_coraclelaw05_SeglogFills rfl rfl rfl (fun F => ?_)
  simp only [List.cons_append, List.nil_append]
  refine XC.seq ?_
  refine XC.reg ?_
  refine XL.as rfl rfl ?_
  refine XL.nil ?_
  refine XQ.thenN ?_
  refine XC.seq ?_
  refine XC.seq ?_
  refine XC.reg ?_
  refine XL.call hb_coraclelaw05_speaks rfl rfl (coraclelaw05_speaks_fn) (tn) ?_
  rintro _ _ ⟨rfl, rfl⟩
  simp only [List.cons_append, List.nil_append]
  refine XL.notT rfl rfl ?_
  refine XL.nil ?_
  refine XQ.thenN ?_
  refine XC.condF' rfl (rfl) ?_
  refine XC.skip ?_
  refine XQ.thenN ?_
  refine XC.seq ?_
  refine XC.seq ?_
  refine XC.reg ?_
  refine XL.mv rfl rfl ?_
  refine XL.bin rfl rfl rfl (bLss) ?_
  refine XL.mv rfl rfl ?_
  refine XL.split 26 rfl (fun hg26 => ?_) (fun hg26 => ?_)
  · refine XL.no rfl rfl ?_
    refine XL.no rfl rfl ?_
    refine XL.pkT rfl rfl rfl ?_
    refine XL.nil ?_
    refine XQ.thenN ?_
    refine XC.condT rfl ?_
    refine XC.reg ?_
    refine XL.as rfl rfl ?_
    refine XL.nil ?_
    refine XQ.thenN ?_
    refine XC.seq ?_
    obtain ⟨k, hk, hk1, hk16⟩ : ∃ k : Nat, (3 : Int) = (k : Int) ∧ 1 ≤ k ∧ k ≤ 16 := ⟨3, rfl, by omega, by omega⟩
    refine XC.re 0 (u := .int .i64 (k : Int)) rfl (congrArg (Value.int .i64) hk) ?_
    obtain ⟨S0, x0, l0, V0, W0, out, hf⟩ := fill_get hk1 hk16
    obtain ⟨q, hq⟩ : ∃ q, 16 / k = q := ⟨_, rfl⟩
    have hq16 : q ≤ 16 := by rw [← hq]; exact Nat.div_le_self 16 k
    have hq1 : 1 ≤ q := by rw [← hq]; exact (Nat.le_div_iff_mul_le (by omega)).2 (by omega)
    rw [hq] at hf
    have hbl := fbody_length k
    have hS := (reR_in spI1.1 hf.a).1
    have hT := (appendM_in hS (fbody k)).1
    have hU := (dropM_in hT x0.1).1
    have hV := (reR_in hU hf.h).1
    have hX := (appendM_in hV (fbody k)).1
    refine XC.reg ?_
    refine XL.call hb_sector_New rfl rfl (sector_New_fn 66 (by omega) (by omega)) tn ?_
    rintro _ _ ⟨bd, rfl, rfl⟩
    simp only [List.cons_append, List.nil_append]
    refine XL.mv rfl rfl ?_
    refine XL.ex rfl rfl rfl ?_
    refine XL.ex rfl rfl rfl ?_
    refine XL.as rfl rfl ?_
    refine XL.as rfl rfl ?_
    refine XL.nil ?_
    refine XQ.thenN ?_
    refine XC.seq ?_
    refine XC.reg ?_
    refine XL.mv rfl rfl ?_
    refine XL.call hb_seglog_Format rfl rfl (seglog_Format_fn bd (DiskS.new 66) (good_new (by omega)) (by simp [DiskS.new]) (by simp [DiskS.new])) (t0.c tn) ?_
    rintro _ _ ⟨rfl, rfl⟩
    simp only [List.cons_append, List.nil_append]
    refine XL.nil ?_
    refine XQ.thenN ?_
    refine XC.seq ?_
    refine XC.reg ?_
    refine XL.mv rfl rfl ?_
    refine XL.call hb_seglog_Open rfl rfl (openT_fn bd spD1 spS1 [] spG1.1 (by rw [spG1.2.1]; omega) (by rw [spG1.2.2]; simp) sp1) (t0.c tn) ?_
    rintro _ _ ⟨b1, vo1, rfl, rfl⟩
    simp only [List.cons_append, List.nil_append]
    refine XL.mv rfl rfl ?_
    refine XL.ex rfl rfl rfl ?_
    refine XL.ex rfl rfl rfl ?_
    refine XL.ex rfl rfl rfl ?_
    refine XL.as rfl rfl ?_
    refine XL.as rfl rfl ?_
    refine XL.as rfl rfl ?_
    refine XL.nil ?_
    refine XQ.thenN ?_
    refine XC.seq ?_
    refine XC.reg ?_
    refine XL.mv rfl rfl ?_
    refine XL.bin rfl rfl rfl (bMul (by omega)) (XL.re 43 (u := .int .i64 ((233 * k : Nat) : Int)) rfl (congrArg (Value.int .i64) (by omega)) ?_)
    refine XL.mk (enc := encB) (233 * k) (0 : UInt8) e_L_uint8 z_uint8 rfl rfl rfl rfl (by omega) (by omega) rfl (fun v44 _ => ?_)
    refine XL.cvV u_L_uint8 u_uint8 u_string rfl rfl (XL.re 45 (u := Go.Sx.S (fbody k)) rfl rfl ?_)
    refine XL.as rfl rfl ?_
    refine XL.nil ?_
    refine XQ.thenN ?_
    refine XC.seq ?_
    refine XC.reg ?_
    refine XL.mv rfl rfl ?_
    refine XL.bin rfl rfl rfl (bQuo (by omega)) (XL.re 47 (u := .int .i64 (q : Int)) rfl (congrArg (Value.int .i64) (by rw [← hq]; rfl)) ?_)
    refine XL.as rfl rfl ?_
    refine XL.nil ?_
    refine XQ.thenN ?_
    refine XC.seq ?_
    refine XC.reg ?_
    refine XL.as rfl rfl ?_
    refine XL.nil ?_
    refine XQ.thenN ?_
    refine XC.seq ?_
    refine XC.block ?_
    refine XC.loop (ι := Nat × LogS) (fun z => [(0, .int .i64 (k : Int)), (3, .pointer (some ⟨bd, 0, none⟩)), (5, .pointer (some ⟨b1, 0, none⟩)), (8, Go.Sx.S (fbody k)), (9, .int .i64 (q : Int)), (10, .int .i64 (z.1 : Int))]) (fun z => [z.2.C b1 bd, F])
      (fun z => z.1 ≤ 4 * q ∧ reR k spS1 z.1 = some z.2) (fun z => 4 * q - z.1) (0, spS1) ⟨Nat.zero_le _, reR_zero⟩ ⟨rfl, rfl, rfl, rfl, rfl, rfl, trivial⟩ (fun w h => Take.sat (t1.c <| t2.c tn) h) (fun z hz => ?_)
    refine XC.seq ?_
    refine XC.seq ?_
    refine XC.reg ?_
    refine XL.mv rfl rfl ?_
    refine XL.bin rfl rfl rfl (bLss) ?_
    refine XL.nil ?_
    refine XQ.thenN ?_
    refine XC.condT' rfl (decide_eq_true (by omega)) ?_
    refine XC.skip ?_
    refine XQ.thenN ?_
    refine XC.block ?_
    refine XC.seq ?_
    refine XC.seq ?_
    refine XC.reg ?_
    refine XL.mv rfl rfl ?_
    refine XL.mv rfl rfl ?_
    refine XL.call hb_seglog_Log_Append rfl rfl (appT_fn b1 bd z.2 (fbody k) (reR_in spI1.1 hz.2).1 (by omega)) (t0.c tn) ?_
    rintro _ _ ⟨rfl, rfl⟩
    simp only [List.cons_append, List.nil_append]
    refine XL.mv rfl rfl ?_
    refine XL.ex rfl rfl rfl ?_
    refine XL.ex rfl rfl rfl ?_
    refine XL.al z_seglog_Record rfl (fun b11 => ?_)
    refine XL.stM g_seglog_Record rfl rfl rfl (by rfl) rfl ?_
    refine XL.as rfl rfl ?_
    refine XL.nil ?_
    refine XQ.thenN ?_
    refine XC.seq ?_
    refine XC.reg ?_
    refine XL.mv rfl rfl ?_
    refine XL.bin rfl rfl rfl (bNeI) ?_
    refine XL.nil ?_
    refine XQ.thenN ?_
    refine XC.cond rfl (fun hc3 => ?_) (fun hc3 => ?_)
    · have h4 : z.1 = 4 * q := by rcases Nat.lt_or_ge z.1 (4 * q) with h | h; exact absurd (reR_ok hz.2 hf.a h) hc3; omega
      have hzS : z.2 = S0 := by have h1 := hz.2; rw [h4, hf.a] at h1; exact (Option.some.inj h1).symm
      have hb : (appendM z.2 (fbody k)).2.1 = 21 := by rw [hzS]; exact hf.b
      refine XC.seq ?_
      refine XC.seq ?_
      refine XC.reg ?_
      refine XL.mv rfl rfl ?_
      refine XL.bin rfl rfl rfl (bNeI) ?_
      refine XL.nil ?_
      refine XQ.thenN ?_
      refine XC.condF' rfl (decide_eq_false (fun hh => hh hb)) ?_
      refine XC.skip ?_
      refine XQ.thenN ?_
      refine XC.exit ?_
      refine XQ.thenE ?_
      refine XQ.blkX rfl ?_
      refine XQ.thenE ?_
      refine XQ.blkE ?_
      refine XQ.thenN ?_
      refine XC.seq ?_
      refine XC.seq ?_
      refine XC.perm (t1.c <| t1.c tn) ?_
      refine XC.to (fun w h => (by rw [hzS] at h; exact h : Sat [(appendM S0 (fbody k)).2.2.C b1 bd, F] w)) ?_
      refine XC.reg ?_
      refine XL.mv rfl rfl ?_
      refine XL.mv rfl rfl ?_
      refine XL.bin rfl rfl rfl (bMul (by omega)) ?_
      refine XL.bin rfl rfl rfl (bNeI) ?_
      refine XL.mv rfl rfl ?_
      refine XL.re 66 (u := .bool false) rfl (congrArg Value.bool (decide_eq_false (by omega))) ?_
      refine XL.mv rfl rfl ?_
      refine XL.call hb_seglog_Log_Free rfl rfl (seglog_Log_Free_fn b1 bd (appendM S0 (fbody k)).2.2.pl (appendM S0 (fbody k)).2.2.c (appendM S0 (fbody k)).2.2.D hT.ok hT.most) (t0.c tn) ?_
      rintro _ _ ⟨rfl, rfl⟩
      simp only [List.cons_append, List.nil_append]
      refine XL.bin rfl rfl rfl (bNeI) ?_
      refine XL.pkF rfl rfl rfl ?_
      refine XL.nil ?_
      refine XQ.thenN ?_
      refine XC.condF' rfl (decide_eq_false (by rw [hf.c]; simp)) ?_
      refine XC.skip ?_
      refine XQ.thenN ?_
      refine XC.seq ?_
      refine XC.reg ?_
      refine XL.mv rfl rfl ?_
      refine XL.call hb_seglog_Log_Segments rfl rfl (seglog_Log_Segments_fn b1 bd (appendM S0 (fbody k)).2.2.pl (appendM S0 (fbody k)).2.2.c (appendM S0 (fbody k)).2.2.D hT.ok) (t0.c tn) ?_
      rintro us _ rfl
      simp only [List.cons_append, List.nil_append]
      refine XL.as rfl rfl ?_
      refine XL.nil ?_
      refine XQ.thenN ?_
      refine XC.seq ?_
      refine XC.seq ?_
      refine XC.to (fun w h => (by rw [hf.d] at h; exact h : Sat [(appendM S0 (fbody k)).2.2.C b1 bd, segS us (x0 :: l0), F] w)) ?_
      refine XC.reg ?_
      refine XL.mv rfl rfl ?_
      refine XL.mv rfl rfl ?_
      refine XL.ixS 0 e_L_seglog_Segment rfl rfl rfl (by simp) rfl (fun b75 _ => ?_)
      refine XL.fa fo_seglog_Segment_0 rfl rfl ?_
      refine XL.ldSf (o := 0) o_int rfl (by simp) rfl rfl ?_
      refine XL.call hb_seglog_Log_Drop rfl rfl (seglog_Log_Drop_fn b1 bd (appendM S0 (fbody k)).2.2 x0.1 hT.ok (by rw [hT.q]; simp)) (t0.c tn) ?_
      rintro _ _ ⟨rfl, rfl⟩
      simp only [List.cons_append, List.nil_append]
      refine XL.bin rfl rfl rfl (bNeI) ?_
      refine XL.mv rfl rfl ?_
      refine XL.re 80 (u := .bool false) rfl (congrArg Value.bool (decide_eq_false (by rw [hf.e]; simp))) ?_
      refine XL.mv rfl rfl ?_
      refine XL.call hb_seglog_Log_Free rfl rfl (seglog_Log_Free_fn b1 bd (dropM (appendM S0 (fbody k)).2.2 x0.1).2.pl (dropM (appendM S0 (fbody k)).2.2 x0.1).2.c (dropM (appendM S0 (fbody k)).2.2 x0.1).2.D hU.ok hU.most) (t0.c tn) ?_
      rintro _ _ ⟨rfl, rfl⟩
      simp only [List.cons_append, List.nil_append]
      refine XL.bin rfl rfl rfl (bNeI) ?_
      refine XL.pkF rfl rfl rfl ?_
      refine XL.nil ?_
      refine XQ.thenN ?_
      refine XC.condF' rfl (decide_eq_false (by rw [hf.g]; simp)) ?_
      refine XC.skip ?_
      refine XQ.thenN ?_
      refine XC.seq ?_
      refine XC.seq ?_
      have hfh := hf.h
      generalize (dropM (appendM S0 (fbody k)).2.2 x0.1).2 = U0 at hU hfh ⊢
      refine XC.reg ?_
      refine XL.as rfl rfl ?_
      refine XL.nil ?_
      refine XQ.thenN ?_
      refine XC.block ?_
      refine XC.loop (ι := Nat × LogS) (fun z => [(0, .int .i64 (k : Int)), (3, .pointer (some ⟨bd, 0, none⟩)), (5, .pointer (some ⟨b1, 0, none⟩)), (8, Go.Sx.S (fbody k)), (9, .int .i64 (q : Int)), (14, .int .i64 (z.1 : Int))]) (fun z => [z.2.C b1 bd, F])
        (fun z => z.1 ≤ q ∧ reR k U0 z.1 = some z.2) (fun z => q - z.1) (0, U0) ⟨Nat.zero_le _, reR_zero⟩ ⟨rfl, rfl, rfl, rfl, rfl, rfl, trivial⟩ (fun w h => Take.sat (t0.c <| t1.c tn) h) (fun z hz => ?_)
      refine XC.seq ?_
      refine XC.seq ?_
      refine XC.reg ?_
      refine XL.mv rfl rfl ?_
      refine XL.mv rfl rfl ?_
      refine XL.bin rfl rfl rfl (bLss) ?_
      refine XL.nil ?_
      refine XQ.thenN ?_
      refine XC.cond rfl (fun hc7 => ?_) (fun hc7 => ?_)
      · have h0 : (appendM z.2 (fbody k)).2.1 = 0 := reR_ok hz.2 hfh (by omega)
        refine XC.skip ?_
        refine XQ.thenN ?_
        refine XC.seq ?_
        refine XC.block ?_
        refine XC.seq ?_
        refine XC.reg ?_
        refine XL.mv rfl rfl ?_
        refine XL.mv rfl rfl ?_
        refine XL.call hb_seglog_Log_Append rfl rfl (appT_fn b1 bd z.2 (fbody k) (reR_in hU hz.2).1 (by omega)) (t0.c tn) ?_
        rintro _ _ ⟨rfl, rfl⟩
        simp only [List.cons_append, List.nil_append]
        refine XL.mv rfl rfl ?_
        refine XL.ex rfl rfl rfl ?_
        refine XL.ex rfl rfl rfl ?_
        refine XL.al z_seglog_Record rfl (fun b15 => ?_)
        refine XL.stM g_seglog_Record rfl rfl rfl (by rfl) rfl ?_
        refine XL.as rfl rfl ?_
        refine XL.nil ?_
        refine XQ.thenN ?_
        refine XC.seq ?_
        refine XC.reg ?_
        refine XL.mv rfl rfl ?_
        refine XL.bin rfl rfl rfl (bNeI) ?_
        refine XL.nil ?_
        refine XQ.thenN ?_
        refine XC.condF' rfl (decide_eq_false (fun hh => hh h0)) ?_
        refine XC.skip ?_
        refine XQ.blkN ?_
        refine XQ.thenN ?_
        refine XC.reg ?_
        refine XL.mv rfl rfl ?_
        refine XL.bin rfl rfl rfl (bAdd (by omega)) ?_
        refine XL.as rfl rfl ?_
        refine XL.nil ?_
        have hst := reR_step hz.2 h0
        generalize (appendM z.2 (fbody k)).2.2 = X1 at hst ⊢
        exact XQ.again (z.1 + 1, X1) (by dsimp only; exact ⟨by omega, hst⟩) (by dsimp only; omega) ⟨rfl, rfl, rfl, rfl, rfl, rfl, trivial⟩ (fun w h => by have h3 := Take.sat (t1.c <| t1.c tn) h; exact h3)
      · have hzV : z.2 = V0 := by have h1 := hz.2; rw [show z.1 = q by omega, hfh] at h1; exact (Option.some.inj h1).symm
        refine XC.to (fun w h => (by rw [hzV] at h; exact h : Sat [V0.C b1 bd, F] w)) ?_
        refine XC.exit ?_
        refine XQ.thenE ?_
        refine XQ.thenE ?_
        refine XQ.blkE ?_
        refine XQ.thenN ?_
        refine XC.seq ?_
        refine XC.reg ?_
        refine XL.mv rfl rfl ?_
        refine XL.mv rfl rfl ?_
        refine XL.call hb_seglog_Log_Append rfl rfl (appT_fn b1 bd V0 (fbody k) hV (by omega)) (t0.c tn) ?_
        rintro _ _ ⟨rfl, rfl⟩
        simp only [List.cons_append, List.nil_append]
        refine XL.mv rfl rfl ?_
        refine XL.ex rfl rfl rfl ?_
        refine XL.ex rfl rfl rfl ?_
        refine XL.al z_seglog_Record rfl (fun b17 => ?_)
        refine XL.stM g_seglog_Record rfl rfl rfl (by rfl) rfl ?_
        refine XL.as rfl rfl ?_
        refine XL.nil ?_
        refine XQ.thenN ?_
        refine XC.seq ?_
        refine XC.perm (t1.c <| t1.c tn) ?_
        refine XC.opn t0 ?_
        rintro ⟨v9⟩
        dsimp only [List.cons_append, List.nil_append]
        refine XC.reg ?_
        refine XL.mv rfl rfl ?_
        refine XL.call hb_seglog_Open rfl rfl (openT_fn bd (appendM V0 (fbody k)).2.2.D W0 out hX.ok.good hX.ok.d (by rw [hX.q]; simp) hf.j) (t1.c tn) ?_
        rintro _ _ ⟨b2, vo2, rfl, rfl⟩
        simp only [List.cons_append, List.nil_append]
        refine XL.mv rfl rfl ?_
        refine XL.ex rfl rfl rfl ?_
        refine XL.ex rfl rfl rfl ?_
        refine XL.ex rfl rfl rfl ?_
        refine XL.as rfl rfl ?_
        refine XL.as rfl rfl ?_
        refine XL.as rfl rfl ?_
        refine XL.nil ?_
        refine XQ.thenN ?_
        refine XC.seq ?_
        refine XC.reg ?_
        refine XL.mv rfl rfl ?_
        refine XL.bin rfl rfl rfl (bEqI) ?_
        refine XL.mv rfl rfl ?_
        refine XL.re 112 (u := .bool true) rfl (congrArg Value.bool (decide_eq_true hf.i)) ?_
        refine XL.mv rfl rfl ?_
        refine XL.bin rfl rfl rfl (bEqI) ?_
        refine XL.pkT rfl rfl rfl ?_
        refine XL.mv rfl rfl ?_
        refine XL.re 116 (u := .bool true) rfl (congrArg Value.bool (decide_eq_true (by omega))) ?_
        refine XL.mv rfl rfl ?_
        refine XL.lenS e_L_seglog_Record rfl rfl ?_
        refine XL.mv rfl rfl ?_
        refine XL.bin rfl rfl rfl (bMul (by omega)) ?_
        refine XL.bin rfl rfl rfl (bEqI) ?_
        refine XL.pkT rfl rfl rfl ?_
        refine XL.mv rfl rfl ?_
        refine XL.re 123 (u := .bool true) rfl (congrArg Value.bool (decide_eq_true (by have := hf.m; omega))) ?_
        refine XL.mv rfl rfl ?_
        refine XL.ixS 0 e_L_seglog_Record rfl rfl rfl (by have := hf.m; omega) rfl (fun b125 _ => ?_)
        refine XL.fa fo_seglog_Record_0 rfl rfl ?_
        refine XL.ldSf (o := 0) o_int rfl (by have := hf.m; omega) rfl rfl ?_
        refine XL.mv rfl rfl ?_
        refine XL.bin rfl rfl rfl (bEqI) ?_
        refine XL.pkT rfl rfl rfl ?_
        refine XL.mv rfl rfl ?_
        refine XL.re 131 (u := .bool true) rfl (congrArg Value.bool (decide_eq_true (by rw [hf.n]))) ?_
        refine XL.mv rfl rfl ?_
        refine XL.mv rfl rfl ?_
        refine XL.lenS e_L_seglog_Record rfl rfl ?_
        refine XL.bin rfl rfl rfl (bSub (by have := hf.m; omega)) ?_
        refine XL.ixS (out.length - 1) e_L_seglog_Record rfl rfl (by have := hf.m; omega) (by have := hf.m; omega) rfl (fun b136 _ => ?_)
        refine XL.fa fo_seglog_Record_0 rfl rfl ?_
        refine XL.ldSf (o := 0) o_int rfl (by have := hf.m; omega) rfl rfl ?_
        refine XL.mv rfl rfl ?_
        refine XL.bin rfl rfl rfl (bMul (by omega)) ?_
        refine XL.bin rfl rfl rfl (bSub (by omega)) ?_
        refine XL.bin rfl rfl rfl (bEqI) ?_
        refine XL.pkT rfl rfl rfl ?_
        refine XL.as rfl rfl ?_
        refine XL.nil ?_
        refine XQ.thenN ?_
        refine XC.ret ?_
        exact XQ.ret (.inl rfl) rfl (rC (resT rfl) <| rN) [] (⟨congrArg Value.bool (decide_eq_true (by have := hf.m; rw [hf.o]; omega)), rfl⟩) (fun w h => by first | exact Take.sat (t3.c tn) h | exact Take.sat (t4.c tn) h | exact Take.sat (t5.c tn) h | exact Take.sat (t6.c tn) h)
    · have h0 : (appendM z.2 (fbody k)).2.1 = 0 := Decidable.not_not.1 hc3
      have h4 : z.1 < 4 * q := by rcases Nat.lt_or_ge z.1 (4 * q) with h | h; exact h; exact absurd h0 (by have h1 := hz.2; rw [show z.1 = 4 * q by omega, hf.a] at h1; rw [← Option.some.inj h1, hf.b]; simp)
      refine XC.skip ?_
      refine XQ.thenN ?_
      refine XC.reg ?_
      refine XL.mv rfl rfl ?_
      refine XL.bin rfl rfl rfl (bAdd (by omega)) ?_
      refine XL.as rfl rfl ?_
      refine XL.nil ?_
      refine XQ.blkN ?_
      have hst := reR_step hz.2 h0
      generalize (appendM z.2 (fbody k)).2.2 = X1 at hst ⊢
      exact XQ.again (z.1 + 1, X1) (by dsimp only; exact ⟨by omega, hst⟩) (by dsimp only; omega) ⟨rfl, rfl, rfl, rfl, rfl, rfl, trivial⟩ (fun w h => by have h3 := Take.sat (t1.c <| t1.c tn) h; exact h3)
  · refine XL.mv rfl rfl ?_
    refine XL.bin rfl rfl rfl (bGtr) ?_
    refine XL.pkF rfl rfl rfl ?_
    refine XL.nil ?_
    refine XQ.thenN ?_
    refine XC.cond rfl (fun hc1 => ?_) (fun hc1 => ?_)
    · refine XC.reg ?_
      refine XL.as rfl rfl ?_
      refine XL.nil ?_
      refine XQ.thenN ?_
      refine XC.seq ?_
      obtain ⟨k, hk, hk1, hk16⟩ : ∃ k : Nat, (3 : Int) = (k : Int) ∧ 1 ≤ k ∧ k ≤ 16 := ⟨3, rfl, by omega, by omega⟩
      refine XC.re 0 (u := .int .i64 (k : Int)) rfl (congrArg (Value.int .i64) hk) ?_
      obtain ⟨S0, x0, l0, V0, W0, out, hf⟩ := fill_get hk1 hk16
      obtain ⟨q, hq⟩ : ∃ q, 16 / k = q := ⟨_, rfl⟩
      have hq16 : q ≤ 16 := by rw [← hq]; exact Nat.div_le_self 16 k
      have hq1 : 1 ≤ q := by rw [← hq]; exact (Nat.le_div_iff_mul_le (by omega)).2 (by omega)
      rw [hq] at hf
      have hbl := fbody_length k
      have hS := (reR_in spI1.1 hf.a).1
      have hT := (appendM_in hS (fbody k)).1
      have hU := (dropM_in hT x0.1).1
      have hV := (reR_in hU hf.h).1
      have hX := (appendM_in hV (fbody k)).1
      refine XC.reg ?_
      refine XL.call hb_sector_New rfl rfl (sector_New_fn 66 (by omega) (by omega)) tn ?_
      rintro _ _ ⟨bd, rfl, rfl⟩
      simp only [List.cons_append, List.nil_append]
      refine XL.mv rfl rfl ?_
      refine XL.ex rfl rfl rfl ?_
      refine XL.ex rfl rfl rfl ?_
      refine XL.as rfl rfl ?_
      refine XL.as rfl rfl ?_
      refine XL.nil ?_
      refine XQ.thenN ?_
      refine XC.seq ?_
      refine XC.reg ?_
      refine XL.mv rfl rfl ?_
      refine XL.call hb_seglog_Format rfl rfl (seglog_Format_fn bd (DiskS.new 66) (good_new (by omega)) (by simp [DiskS.new]) (by simp [DiskS.new])) (t0.c tn) ?_
      rintro _ _ ⟨rfl, rfl⟩
      simp only [List.cons_append, List.nil_append]
      refine XL.nil ?_
      refine XQ.thenN ?_
      refine XC.seq ?_
      refine XC.reg ?_
      refine XL.mv rfl rfl ?_
      refine XL.call hb_seglog_Open rfl rfl (openT_fn bd spD1 spS1 [] spG1.1 (by rw [spG1.2.1]; omega) (by rw [spG1.2.2]; simp) sp1) (t0.c tn) ?_
      rintro _ _ ⟨b1, vo1, rfl, rfl⟩
      simp only [List.cons_append, List.nil_append]
      refine XL.mv rfl rfl ?_
      refine XL.ex rfl rfl rfl ?_
      refine XL.ex rfl rfl rfl ?_
      refine XL.ex rfl rfl rfl ?_
      refine XL.as rfl rfl ?_
      refine XL.as rfl rfl ?_
      refine XL.as rfl rfl ?_
      refine XL.nil ?_
      refine XQ.thenN ?_
      refine XC.seq ?_
      refine XC.reg ?_
      refine XL.mv rfl rfl ?_
      refine XL.bin rfl rfl rfl (bMul (by omega)) (XL.re 43 (u := .int .i64 ((233 * k : Nat) : Int)) rfl (congrArg (Value.int .i64) (by omega)) ?_)
      refine XL.mk (enc := encB) (233 * k) (0 : UInt8) e_L_uint8 z_uint8 rfl rfl rfl rfl (by omega) (by omega) rfl (fun v44 _ => ?_)
      refine XL.cvV u_L_uint8 u_uint8 u_string rfl rfl (XL.re 45 (u := Go.Sx.S (fbody k)) rfl rfl ?_)
      refine XL.as rfl rfl ?_
      refine XL.nil ?_
      refine XQ.thenN ?_
      refine XC.seq ?_
      refine XC.reg ?_
      refine XL.mv rfl rfl ?_
      refine XL.bin rfl rfl rfl (bQuo (by omega)) (XL.re 47 (u := .int .i64 (q : Int)) rfl (congrArg (Value.int .i64) (by rw [← hq]; rfl)) ?_)
      refine XL.as rfl rfl ?_
      refine XL.nil ?_
      refine XQ.thenN ?_
      refine XC.seq ?_
      refine XC.reg ?_
      refine XL.as rfl rfl ?_
      refine XL.nil ?_
      refine XQ.thenN ?_
      refine XC.seq ?_
      refine XC.block ?_
      refine XC.loop (ι := Nat × LogS) (fun z => [(0, .int .i64 (k : Int)), (3, .pointer (some ⟨bd, 0, none⟩)), (5, .pointer (some ⟨b1, 0, none⟩)), (8, Go.Sx.S (fbody k)), (9, .int .i64 (q : Int)), (10, .int .i64 (z.1 : Int))]) (fun z => [z.2.C b1 bd, F])
        (fun z => z.1 ≤ 4 * q ∧ reR k spS1 z.1 = some z.2) (fun z => 4 * q - z.1) (0, spS1) ⟨Nat.zero_le _, reR_zero⟩ ⟨rfl, rfl, rfl, rfl, rfl, rfl, trivial⟩ (fun w h => Take.sat (t1.c <| t2.c tn) h) (fun z hz => ?_)
      refine XC.seq ?_
      refine XC.seq ?_
      refine XC.reg ?_
      refine XL.mv rfl rfl ?_
      refine XL.bin rfl rfl rfl (bLss) ?_
      refine XL.nil ?_
      refine XQ.thenN ?_
      refine XC.condT' rfl (decide_eq_true (by omega)) ?_
      refine XC.skip ?_
      refine XQ.thenN ?_
      refine XC.block ?_
      refine XC.seq ?_
      refine XC.seq ?_
      refine XC.reg ?_
      refine XL.mv rfl rfl ?_
      refine XL.mv rfl rfl ?_
      refine XL.call hb_seglog_Log_Append rfl rfl (appT_fn b1 bd z.2 (fbody k) (reR_in spI1.1 hz.2).1 (by omega)) (t0.c tn) ?_
      rintro _ _ ⟨rfl, rfl⟩
      simp only [List.cons_append, List.nil_append]
      refine XL.mv rfl rfl ?_
      refine XL.ex rfl rfl rfl ?_
      refine XL.ex rfl rfl rfl ?_
      refine XL.al z_seglog_Record rfl (fun b11 => ?_)
      refine XL.stM g_seglog_Record rfl rfl rfl (by rfl) rfl ?_
      refine XL.as rfl rfl ?_
      refine XL.nil ?_
      refine XQ.thenN ?_
      refine XC.seq ?_
      refine XC.reg ?_
      refine XL.mv rfl rfl ?_
      refine XL.bin rfl rfl rfl (bNeI) ?_
      refine XL.nil ?_
      refine XQ.thenN ?_
      refine XC.cond rfl (fun hc3 => ?_) (fun hc3 => ?_)
      · have h4 : z.1 = 4 * q := by rcases Nat.lt_or_ge z.1 (4 * q) with h | h; exact absurd (reR_ok hz.2 hf.a h) hc3; omega
        have hzS : z.2 = S0 := by have h1 := hz.2; rw [h4, hf.a] at h1; exact (Option.some.inj h1).symm
        have hb : (appendM z.2 (fbody k)).2.1 = 21 := by rw [hzS]; exact hf.b
        refine XC.seq ?_
        refine XC.seq ?_
        refine XC.reg ?_
        refine XL.mv rfl rfl ?_
        refine XL.bin rfl rfl rfl (bNeI) ?_
        refine XL.nil ?_
        refine XQ.thenN ?_
        refine XC.condF' rfl (decide_eq_false (fun hh => hh hb)) ?_
        refine XC.skip ?_
        refine XQ.thenN ?_
        refine XC.exit ?_
        refine XQ.thenE ?_
        refine XQ.blkX rfl ?_
        refine XQ.thenE ?_
        refine XQ.blkE ?_
        refine XQ.thenN ?_
        refine XC.seq ?_
        refine XC.seq ?_
        refine XC.perm (t1.c <| t1.c tn) ?_
        refine XC.to (fun w h => (by rw [hzS] at h; exact h : Sat [(appendM S0 (fbody k)).2.2.C b1 bd, F] w)) ?_
        refine XC.reg ?_
        refine XL.mv rfl rfl ?_
        refine XL.mv rfl rfl ?_
        refine XL.bin rfl rfl rfl (bMul (by omega)) ?_
        refine XL.bin rfl rfl rfl (bNeI) ?_
        refine XL.mv rfl rfl ?_
        refine XL.re 66 (u := .bool false) rfl (congrArg Value.bool (decide_eq_false (by omega))) ?_
        refine XL.mv rfl rfl ?_
        refine XL.call hb_seglog_Log_Free rfl rfl (seglog_Log_Free_fn b1 bd (appendM S0 (fbody k)).2.2.pl (appendM S0 (fbody k)).2.2.c (appendM S0 (fbody k)).2.2.D hT.ok hT.most) (t0.c tn) ?_
        rintro _ _ ⟨rfl, rfl⟩
        simp only [List.cons_append, List.nil_append]
        refine XL.bin rfl rfl rfl (bNeI) ?_
        refine XL.pkF rfl rfl rfl ?_
        refine XL.nil ?_
        refine XQ.thenN ?_
        refine XC.condF' rfl (decide_eq_false (by rw [hf.c]; simp)) ?_
        refine XC.skip ?_
        refine XQ.thenN ?_
        refine XC.seq ?_
        refine XC.reg ?_
        refine XL.mv rfl rfl ?_
        refine XL.call hb_seglog_Log_Segments rfl rfl (seglog_Log_Segments_fn b1 bd (appendM S0 (fbody k)).2.2.pl (appendM S0 (fbody k)).2.2.c (appendM S0 (fbody k)).2.2.D hT.ok) (t0.c tn) ?_
        rintro us _ rfl
        simp only [List.cons_append, List.nil_append]
        refine XL.as rfl rfl ?_
        refine XL.nil ?_
        refine XQ.thenN ?_
        refine XC.seq ?_
        refine XC.seq ?_
        refine XC.to (fun w h => (by rw [hf.d] at h; exact h : Sat [(appendM S0 (fbody k)).2.2.C b1 bd, segS us (x0 :: l0), F] w)) ?_
        refine XC.reg ?_
        refine XL.mv rfl rfl ?_
        refine XL.mv rfl rfl ?_
        refine XL.ixS 0 e_L_seglog_Segment rfl rfl rfl (by simp) rfl (fun b75 _ => ?_)
        refine XL.fa fo_seglog_Segment_0 rfl rfl ?_
        refine XL.ldSf (o := 0) o_int rfl (by simp) rfl rfl ?_
        refine XL.call hb_seglog_Log_Drop rfl rfl (seglog_Log_Drop_fn b1 bd (appendM S0 (fbody k)).2.2 x0.1 hT.ok (by rw [hT.q]; simp)) (t0.c tn) ?_
        rintro _ _ ⟨rfl, rfl⟩
        simp only [List.cons_append, List.nil_append]
        refine XL.bin rfl rfl rfl (bNeI) ?_
        refine XL.mv rfl rfl ?_
        refine XL.re 80 (u := .bool false) rfl (congrArg Value.bool (decide_eq_false (by rw [hf.e]; simp))) ?_
        refine XL.mv rfl rfl ?_
        refine XL.call hb_seglog_Log_Free rfl rfl (seglog_Log_Free_fn b1 bd (dropM (appendM S0 (fbody k)).2.2 x0.1).2.pl (dropM (appendM S0 (fbody k)).2.2 x0.1).2.c (dropM (appendM S0 (fbody k)).2.2 x0.1).2.D hU.ok hU.most) (t0.c tn) ?_
        rintro _ _ ⟨rfl, rfl⟩
        simp only [List.cons_append, List.nil_append]
        refine XL.bin rfl rfl rfl (bNeI) ?_
        refine XL.pkF rfl rfl rfl ?_
        refine XL.nil ?_
        refine XQ.thenN ?_
        refine XC.condF' rfl (decide_eq_false (by rw [hf.g]; simp)) ?_
        refine XC.skip ?_
        refine XQ.thenN ?_
        refine XC.seq ?_
        refine XC.seq ?_
        have hfh := hf.h
        generalize (dropM (appendM S0 (fbody k)).2.2 x0.1).2 = U0 at hU hfh ⊢
        refine XC.reg ?_
        refine XL.as rfl rfl ?_
        refine XL.nil ?_
        refine XQ.thenN ?_
        refine XC.block ?_
        refine XC.loop (ι := Nat × LogS) (fun z => [(0, .int .i64 (k : Int)), (3, .pointer (some ⟨bd, 0, none⟩)), (5, .pointer (some ⟨b1, 0, none⟩)), (8, Go.Sx.S (fbody k)), (9, .int .i64 (q : Int)), (14, .int .i64 (z.1 : Int))]) (fun z => [z.2.C b1 bd, F])
          (fun z => z.1 ≤ q ∧ reR k U0 z.1 = some z.2) (fun z => q - z.1) (0, U0) ⟨Nat.zero_le _, reR_zero⟩ ⟨rfl, rfl, rfl, rfl, rfl, rfl, trivial⟩ (fun w h => Take.sat (t0.c <| t1.c tn) h) (fun z hz => ?_)
        refine XC.seq ?_
        refine XC.seq ?_
        refine XC.reg ?_
        refine XL.mv rfl rfl ?_
        refine XL.mv rfl rfl ?_
        refine XL.bin rfl rfl rfl (bLss) ?_
        refine XL.nil ?_
        refine XQ.thenN ?_
        refine XC.cond rfl (fun hc7 => ?_) (fun hc7 => ?_)
        · have h0 : (appendM z.2 (fbody k)).2.1 = 0 := reR_ok hz.2 hfh (by omega)
          refine XC.skip ?_
          refine XQ.thenN ?_
          refine XC.seq ?_
          refine XC.block ?_
          refine XC.seq ?_
          refine XC.reg ?_
          refine XL.mv rfl rfl ?_
          refine XL.mv rfl rfl ?_
          refine XL.call hb_seglog_Log_Append rfl rfl (appT_fn b1 bd z.2 (fbody k) (reR_in hU hz.2).1 (by omega)) (t0.c tn) ?_
          rintro _ _ ⟨rfl, rfl⟩
          simp only [List.cons_append, List.nil_append]
          refine XL.mv rfl rfl ?_
          refine XL.ex rfl rfl rfl ?_
          refine XL.ex rfl rfl rfl ?_
          refine XL.al z_seglog_Record rfl (fun b15 => ?_)
          refine XL.stM g_seglog_Record rfl rfl rfl (by rfl) rfl ?_
          refine XL.as rfl rfl ?_
          refine XL.nil ?_
          refine XQ.thenN ?_
          refine XC.seq ?_
          refine XC.reg ?_
          refine XL.mv rfl rfl ?_
          refine XL.bin rfl rfl rfl (bNeI) ?_
          refine XL.nil ?_
          refine XQ.thenN ?_
          refine XC.condF' rfl (decide_eq_false (fun hh => hh h0)) ?_
          refine XC.skip ?_
          refine XQ.blkN ?_
          refine XQ.thenN ?_
          refine XC.reg ?_
          refine XL.mv rfl rfl ?_
          refine XL.bin rfl rfl rfl (bAdd (by omega)) ?_
          refine XL.as rfl rfl ?_
          refine XL.nil ?_
          have hst := reR_step hz.2 h0
          generalize (appendM z.2 (fbody k)).2.2 = X1 at hst ⊢
          exact XQ.again (z.1 + 1, X1) (by dsimp only; exact ⟨by omega, hst⟩) (by dsimp only; omega) ⟨rfl, rfl, rfl, rfl, rfl, rfl, trivial⟩ (fun w h => by have h3 := Take.sat (t1.c <| t1.c tn) h; exact h3)
        · have hzV : z.2 = V0 := by have h1 := hz.2; rw [show z.1 = q by omega, hfh] at h1; exact (Option.some.inj h1).symm
          refine XC.to (fun w h => (by rw [hzV] at h; exact h : Sat [V0.C b1 bd, F] w)) ?_
          refine XC.exit ?_
          refine XQ.thenE ?_
          refine XQ.thenE ?_
          refine XQ.blkE ?_
          refine XQ.thenN ?_
          refine XC.seq ?_
          refine XC.reg ?_
          refine XL.mv rfl rfl ?_
          refine XL.mv rfl rfl ?_
          refine XL.call hb_seglog_Log_Append rfl rfl (appT_fn b1 bd V0 (fbody k) hV (by omega)) (t0.c tn) ?_
          rintro _ _ ⟨rfl, rfl⟩
          simp only [List.cons_append, List.nil_append]
          refine XL.mv rfl rfl ?_
          refine XL.ex rfl rfl rfl ?_
          refine XL.ex rfl rfl rfl ?_
          refine XL.al z_seglog_Record rfl (fun b17 => ?_)
          refine XL.stM g_seglog_Record rfl rfl rfl (by rfl) rfl ?_
          refine XL.as rfl rfl ?_
          refine XL.nil ?_
          refine XQ.thenN ?_
          refine XC.seq ?_
          refine XC.perm (t1.c <| t1.c tn) ?_
          refine XC.opn t0 ?_
          rintro ⟨v9⟩
          dsimp only [List.cons_append, List.nil_append]
          refine XC.reg ?_
          refine XL.mv rfl rfl ?_
          refine XL.call hb_seglog_Open rfl rfl (openT_fn bd (appendM V0 (fbody k)).2.2.D W0 out hX.ok.good hX.ok.d (by rw [hX.q]; simp) hf.j) (t1.c tn) ?_
          rintro _ _ ⟨b2, vo2, rfl, rfl⟩
          simp only [List.cons_append, List.nil_append]
          refine XL.mv rfl rfl ?_
          refine XL.ex rfl rfl rfl ?_
          refine XL.ex rfl rfl rfl ?_
          refine XL.ex rfl rfl rfl ?_
          refine XL.as rfl rfl ?_
          refine XL.as rfl rfl ?_
          refine XL.as rfl rfl ?_
          refine XL.nil ?_
          refine XQ.thenN ?_
          refine XC.seq ?_
          refine XC.reg ?_
          refine XL.mv rfl rfl ?_
          refine XL.bin rfl rfl rfl (bEqI) ?_
          refine XL.mv rfl rfl ?_
          refine XL.re 112 (u := .bool true) rfl (congrArg Value.bool (decide_eq_true hf.i)) ?_
          refine XL.mv rfl rfl ?_
          refine XL.bin rfl rfl rfl (bEqI) ?_
          refine XL.pkT rfl rfl rfl ?_
          refine XL.mv rfl rfl ?_
          refine XL.re 116 (u := .bool true) rfl (congrArg Value.bool (decide_eq_true (by omega))) ?_
          refine XL.mv rfl rfl ?_
          refine XL.lenS e_L_seglog_Record rfl rfl ?_
          refine XL.mv rfl rfl ?_
          refine XL.bin rfl rfl rfl (bMul (by omega)) ?_
          refine XL.bin rfl rfl rfl (bEqI) ?_
          refine XL.pkT rfl rfl rfl ?_
          refine XL.mv rfl rfl ?_
          refine XL.re 123 (u := .bool true) rfl (congrArg Value.bool (decide_eq_true (by have := hf.m; omega))) ?_
          refine XL.mv rfl rfl ?_
          refine XL.ixS 0 e_L_seglog_Record rfl rfl rfl (by have := hf.m; omega) rfl (fun b125 _ => ?_)
          refine XL.fa fo_seglog_Record_0 rfl rfl ?_
          refine XL.ldSf (o := 0) o_int rfl (by have := hf.m; omega) rfl rfl ?_
          refine XL.mv rfl rfl ?_
          refine XL.bin rfl rfl rfl (bEqI) ?_
          refine XL.pkT rfl rfl rfl ?_
          refine XL.mv rfl rfl ?_
          refine XL.re 131 (u := .bool true) rfl (congrArg Value.bool (decide_eq_true (by rw [hf.n]))) ?_
          refine XL.mv rfl rfl ?_
          refine XL.mv rfl rfl ?_
          refine XL.lenS e_L_seglog_Record rfl rfl ?_
          refine XL.bin rfl rfl rfl (bSub (by have := hf.m; omega)) ?_
          refine XL.ixS (out.length - 1) e_L_seglog_Record rfl rfl (by have := hf.m; omega) (by have := hf.m; omega) rfl (fun b136 _ => ?_)
          refine XL.fa fo_seglog_Record_0 rfl rfl ?_
          refine XL.ldSf (o := 0) o_int rfl (by have := hf.m; omega) rfl rfl ?_
          refine XL.mv rfl rfl ?_
          refine XL.bin rfl rfl rfl (bMul (by omega)) ?_
          refine XL.bin rfl rfl rfl (bSub (by omega)) ?_
          refine XL.bin rfl rfl rfl (bEqI) ?_
          refine XL.pkT rfl rfl rfl ?_
          refine XL.as rfl rfl ?_
          refine XL.nil ?_
          refine XQ.thenN ?_
          refine XC.ret ?_
          exact XQ.ret (.inl rfl) rfl (rC (resT rfl) <| rN) [] (⟨congrArg Value.bool (decide_eq_true (by have := hf.m; rw [hf.o]; omega)), rfl⟩) (fun w h => by first | exact Take.sat (t3.c tn) h | exact Take.sat (t4.c tn) h | exact Take.sat (t5.c tn) h | exact Take.sat (t6.c tn) h)
      · have h0 : (appendM z.2 (fbody k)).2.1 = 0 := Decidable.not_not.1 hc3
        have h4 : z.1 < 4 * q := by rcases Nat.lt_or_ge z.1 (4 * q) with h | h; exact h; exact absurd h0 (by have h1 := hz.2; rw [show z.1 = 4 * q by omega, hf.a] at h1; rw [← Option.some.inj h1, hf.b]; simp)
        refine XC.skip ?_
        refine XQ.thenN ?_
        refine XC.reg ?_
        refine XL.mv rfl rfl ?_
        refine XL.bin rfl rfl rfl (bAdd (by omega)) ?_
        refine XL.as rfl rfl ?_
        refine XL.nil ?_
        refine XQ.blkN ?_
        have hst := reR_step hz.2 h0
        generalize (appendM z.2 (fbody k)).2.2 = X1 at hst ⊢
        exact XQ.again (z.1 + 1, X1) (by dsimp only; exact ⟨by omega, hst⟩) (by dsimp only; omega) ⟨rfl, rfl, rfl, rfl, rfl, rfl, trivial⟩ (fun w h => by have h3 := Take.sat (t1.c <| t1.c tn) h; exact h3)
    · refine XC.skip ?_
      refine XQ.thenN ?_
      refine XC.seq ?_
      obtain ⟨k, hk, hk1, hk16⟩ : ∃ k : Nat, (n : Int) = (k : Int) ∧ 1 ≤ k ∧ k ≤ 16 := ⟨n.toNat, by omega, by omega, by omega⟩
      refine XC.re 0 (u := .int .i64 (k : Int)) rfl (congrArg (Value.int .i64) hk) ?_
      obtain ⟨S0, x0, l0, V0, W0, out, hf⟩ := fill_get hk1 hk16
      obtain ⟨q, hq⟩ : ∃ q, 16 / k = q := ⟨_, rfl⟩
      have hq16 : q ≤ 16 := by rw [← hq]; exact Nat.div_le_self 16 k
      have hq1 : 1 ≤ q := by rw [← hq]; exact (Nat.le_div_iff_mul_le (by omega)).2 (by omega)
      rw [hq] at hf
      have hbl := fbody_length k
      have hS := (reR_in spI1.1 hf.a).1
      have hT := (appendM_in hS (fbody k)).1
      have hU := (dropM_in hT x0.1).1
      have hV := (reR_in hU hf.h).1
      have hX := (appendM_in hV (fbody k)).1
      refine XC.reg ?_
      refine XL.call hb_sector_New rfl rfl (sector_New_fn 66 (by omega) (by omega)) tn ?_
      rintro _ _ ⟨bd, rfl, rfl⟩
      simp only [List.cons_append, List.nil_append]
      refine XL.mv rfl rfl ?_
      refine XL.ex rfl rfl rfl ?_
      refine XL.ex rfl rfl rfl ?_
      refine XL.as rfl rfl ?_
      refine XL.as rfl rfl ?_
      refine XL.nil ?_
      refine XQ.thenN ?_
      refine XC.seq ?_
      refine XC.reg ?_
      refine XL.mv rfl rfl ?_
      refine XL.call hb_seglog_Format rfl rfl (seglog_Format_fn bd (DiskS.new 66) (good_new (by omega)) (by simp [DiskS.new]) (by simp [DiskS.new])) (t0.c tn) ?_
      rintro _ _ ⟨rfl, rfl⟩
      simp only [List.cons_append, List.nil_append]
      refine XL.nil ?_
      refine XQ.thenN ?_
      refine XC.seq ?_
      refine XC.reg ?_
      refine XL.mv rfl rfl ?_
      refine XL.call hb_seglog_Open rfl rfl (openT_fn bd spD1 spS1 [] spG1.1 (by rw [spG1.2.1]; omega) (by rw [spG1.2.2]; simp) sp1) (t0.c tn) ?_
      rintro _ _ ⟨b1, vo1, rfl, rfl⟩
      simp only [List.cons_append, List.nil_append]
      refine XL.mv rfl rfl ?_
      refine XL.ex rfl rfl rfl ?_
      refine XL.ex rfl rfl rfl ?_
      refine XL.ex rfl rfl rfl ?_
      refine XL.as rfl rfl ?_
      refine XL.as rfl rfl ?_
      refine XL.as rfl rfl ?_
      refine XL.nil ?_
      refine XQ.thenN ?_
      refine XC.seq ?_
      refine XC.reg ?_
      refine XL.mv rfl rfl ?_
      refine XL.bin rfl rfl rfl (bMul (by omega)) (XL.re 43 (u := .int .i64 ((233 * k : Nat) : Int)) rfl (congrArg (Value.int .i64) (by omega)) ?_)
      refine XL.mk (enc := encB) (233 * k) (0 : UInt8) e_L_uint8 z_uint8 rfl rfl rfl rfl (by omega) (by omega) rfl (fun v44 _ => ?_)
      refine XL.cvV u_L_uint8 u_uint8 u_string rfl rfl (XL.re 45 (u := Go.Sx.S (fbody k)) rfl rfl ?_)
      refine XL.as rfl rfl ?_
      refine XL.nil ?_
      refine XQ.thenN ?_
      refine XC.seq ?_
      refine XC.reg ?_
      refine XL.mv rfl rfl ?_
      refine XL.bin rfl rfl rfl (bQuo (by omega)) (XL.re 47 (u := .int .i64 (q : Int)) rfl (congrArg (Value.int .i64) (by rw [← hq]; rfl)) ?_)
      refine XL.as rfl rfl ?_
      refine XL.nil ?_
      refine XQ.thenN ?_
      refine XC.seq ?_
      refine XC.reg ?_
      refine XL.as rfl rfl ?_
      refine XL.nil ?_
      refine XQ.thenN ?_
      refine XC.seq ?_
      refine XC.block ?_
      refine XC.loop (ι := Nat × LogS) (fun z => [(0, .int .i64 (k : Int)), (3, .pointer (some ⟨bd, 0, none⟩)), (5, .pointer (some ⟨b1, 0, none⟩)), (8, Go.Sx.S (fbody k)), (9, .int .i64 (q : Int)), (10, .int .i64 (z.1 : Int))]) (fun z => [z.2.C b1 bd, F])
        (fun z => z.1 ≤ 4 * q ∧ reR k spS1 z.1 = some z.2) (fun z => 4 * q - z.1) (0, spS1) ⟨Nat.zero_le _, reR_zero⟩ ⟨rfl, rfl, rfl, rfl, rfl, rfl, trivial⟩ (fun w h => Take.sat (t1.c <| t2.c tn) h) (fun z hz => ?_)
      refine XC.seq ?_
      refine XC.seq ?_
      refine XC.reg ?_
      refine XL.mv rfl rfl ?_
      refine XL.bin rfl rfl rfl (bLss) ?_
      refine XL.nil ?_
      refine XQ.thenN ?_
      refine XC.condT' rfl (decide_eq_true (by omega)) ?_
      refine XC.skip ?_
      refine XQ.thenN ?_
      refine XC.block ?_
      refine XC.seq ?_
      refine XC.seq ?_
      refine XC.reg ?_
      refine XL.mv rfl rfl ?_
      refine XL.mv rfl rfl ?_
      refine XL.call hb_seglog_Log_Append rfl rfl (appT_fn b1 bd z.2 (fbody k) (reR_in spI1.1 hz.2).1 (by omega)) (t0.c tn) ?_
      rintro _ _ ⟨rfl, rfl⟩
      simp only [List.cons_append, List.nil_append]
      refine XL.mv rfl rfl ?_
      refine XL.ex rfl rfl rfl ?_
      refine XL.ex rfl rfl rfl ?_
      refine XL.al z_seglog_Record rfl (fun b11 => ?_)
      refine XL.stM g_seglog_Record rfl rfl rfl (by rfl) rfl ?_
      refine XL.as rfl rfl ?_
      refine XL.nil ?_
      refine XQ.thenN ?_
      refine XC.seq ?_
      refine XC.reg ?_
      refine XL.mv rfl rfl ?_
      refine XL.bin rfl rfl rfl (bNeI) ?_
      refine XL.nil ?_
      refine XQ.thenN ?_
      refine XC.cond rfl (fun hc3 => ?_) (fun hc3 => ?_)
      · have h4 : z.1 = 4 * q := by rcases Nat.lt_or_ge z.1 (4 * q) with h | h; exact absurd (reR_ok hz.2 hf.a h) hc3; omega
        have hzS : z.2 = S0 := by have h1 := hz.2; rw [h4, hf.a] at h1; exact (Option.some.inj h1).symm
        have hb : (appendM z.2 (fbody k)).2.1 = 21 := by rw [hzS]; exact hf.b
        refine XC.seq ?_
        refine XC.seq ?_
        refine XC.reg ?_
        refine XL.mv rfl rfl ?_
        refine XL.bin rfl rfl rfl (bNeI) ?_
        refine XL.nil ?_
        refine XQ.thenN ?_
        refine XC.condF' rfl (decide_eq_false (fun hh => hh hb)) ?_
        refine XC.skip ?_
        refine XQ.thenN ?_
        refine XC.exit ?_
        refine XQ.thenE ?_
        refine XQ.blkX rfl ?_
        refine XQ.thenE ?_
        refine XQ.blkE ?_
        refine XQ.thenN ?_
        refine XC.seq ?_
        refine XC.seq ?_
        refine XC.perm (t1.c <| t1.c tn) ?_
        refine XC.to (fun w h => (by rw [hzS] at h; exact h : Sat [(appendM S0 (fbody k)).2.2.C b1 bd, F] w)) ?_
        refine XC.reg ?_
        refine XL.mv rfl rfl ?_
        refine XL.mv rfl rfl ?_
        refine XL.bin rfl rfl rfl (bMul (by omega)) ?_
        refine XL.bin rfl rfl rfl (bNeI) ?_
        refine XL.mv rfl rfl ?_
        refine XL.re 66 (u := .bool false) rfl (congrArg Value.bool (decide_eq_false (by omega))) ?_
        refine XL.mv rfl rfl ?_
        refine XL.call hb_seglog_Log_Free rfl rfl (seglog_Log_Free_fn b1 bd (appendM S0 (fbody k)).2.2.pl (appendM S0 (fbody k)).2.2.c (appendM S0 (fbody k)).2.2.D hT.ok hT.most) (t0.c tn) ?_
        rintro _ _ ⟨rfl, rfl⟩
        simp only [List.cons_append, List.nil_append]
        refine XL.bin rfl rfl rfl (bNeI) ?_
        refine XL.pkF rfl rfl rfl ?_
        refine XL.nil ?_
        refine XQ.thenN ?_
        refine XC.condF' rfl (decide_eq_false (by rw [hf.c]; simp)) ?_
        refine XC.skip ?_
        refine XQ.thenN ?_
        refine XC.seq ?_
        refine XC.reg ?_
        refine XL.mv rfl rfl ?_
        refine XL.call hb_seglog_Log_Segments rfl rfl (seglog_Log_Segments_fn b1 bd (appendM S0 (fbody k)).2.2.pl (appendM S0 (fbody k)).2.2.c (appendM S0 (fbody k)).2.2.D hT.ok) (t0.c tn) ?_
        rintro us _ rfl
        simp only [List.cons_append, List.nil_append]
        refine XL.as rfl rfl ?_
        refine XL.nil ?_
        refine XQ.thenN ?_
        refine XC.seq ?_
        refine XC.seq ?_
        refine XC.to (fun w h => (by rw [hf.d] at h; exact h : Sat [(appendM S0 (fbody k)).2.2.C b1 bd, segS us (x0 :: l0), F] w)) ?_
        refine XC.reg ?_
        refine XL.mv rfl rfl ?_
        refine XL.mv rfl rfl ?_
        refine XL.ixS 0 e_L_seglog_Segment rfl rfl rfl (by simp) rfl (fun b75 _ => ?_)
        refine XL.fa fo_seglog_Segment_0 rfl rfl ?_
        refine XL.ldSf (o := 0) o_int rfl (by simp) rfl rfl ?_
        refine XL.call hb_seglog_Log_Drop rfl rfl (seglog_Log_Drop_fn b1 bd (appendM S0 (fbody k)).2.2 x0.1 hT.ok (by rw [hT.q]; simp)) (t0.c tn) ?_
        rintro _ _ ⟨rfl, rfl⟩
        simp only [List.cons_append, List.nil_append]
        refine XL.bin rfl rfl rfl (bNeI) ?_
        refine XL.mv rfl rfl ?_
        refine XL.re 80 (u := .bool false) rfl (congrArg Value.bool (decide_eq_false (by rw [hf.e]; simp))) ?_
        refine XL.mv rfl rfl ?_
        refine XL.call hb_seglog_Log_Free rfl rfl (seglog_Log_Free_fn b1 bd (dropM (appendM S0 (fbody k)).2.2 x0.1).2.pl (dropM (appendM S0 (fbody k)).2.2 x0.1).2.c (dropM (appendM S0 (fbody k)).2.2 x0.1).2.D hU.ok hU.most) (t0.c tn) ?_
        rintro _ _ ⟨rfl, rfl⟩
        simp only [List.cons_append, List.nil_append]
        refine XL.bin rfl rfl rfl (bNeI) ?_
        refine XL.pkF rfl rfl rfl ?_
        refine XL.nil ?_
        refine XQ.thenN ?_
        refine XC.condF' rfl (decide_eq_false (by rw [hf.g]; simp)) ?_
        refine XC.skip ?_
        refine XQ.thenN ?_
        refine XC.seq ?_
        refine XC.seq ?_
        have hfh := hf.h
        generalize (dropM (appendM S0 (fbody k)).2.2 x0.1).2 = U0 at hU hfh ⊢
        refine XC.reg ?_
        refine XL.as rfl rfl ?_
        refine XL.nil ?_
        refine XQ.thenN ?_
        refine XC.block ?_
        refine XC.loop (ι := Nat × LogS) (fun z => [(0, .int .i64 (k : Int)), (3, .pointer (some ⟨bd, 0, none⟩)), (5, .pointer (some ⟨b1, 0, none⟩)), (8, Go.Sx.S (fbody k)), (9, .int .i64 (q : Int)), (14, .int .i64 (z.1 : Int))]) (fun z => [z.2.C b1 bd, F])
          (fun z => z.1 ≤ q ∧ reR k U0 z.1 = some z.2) (fun z => q - z.1) (0, U0) ⟨Nat.zero_le _, reR_zero⟩ ⟨rfl, rfl, rfl, rfl, rfl, rfl, trivial⟩ (fun w h => Take.sat (t0.c <| t1.c tn) h) (fun z hz => ?_)
        refine XC.seq ?_
        refine XC.seq ?_
        refine XC.reg ?_
        refine XL.mv rfl rfl ?_
        refine XL.mv rfl rfl ?_
        refine XL.bin rfl rfl rfl (bLss) ?_
        refine XL.nil ?_
        refine XQ.thenN ?_
        refine XC.cond rfl (fun hc7 => ?_) (fun hc7 => ?_)
        · have h0 : (appendM z.2 (fbody k)).2.1 = 0 := reR_ok hz.2 hfh (by omega)
          refine XC.skip ?_
          refine XQ.thenN ?_
          refine XC.seq ?_
          refine XC.block ?_
          refine XC.seq ?_
          refine XC.reg ?_
          refine XL.mv rfl rfl ?_
          refine XL.mv rfl rfl ?_
          refine XL.call hb_seglog_Log_Append rfl rfl (appT_fn b1 bd z.2 (fbody k) (reR_in hU hz.2).1 (by omega)) (t0.c tn) ?_
          rintro _ _ ⟨rfl, rfl⟩
          simp only [List.cons_append, List.nil_append]
          refine XL.mv rfl rfl ?_
          refine XL.ex rfl rfl rfl ?_
          refine XL.ex rfl rfl rfl ?_
          refine XL.al z_seglog_Record rfl (fun b15 => ?_)
          refine XL.stM g_seglog_Record rfl rfl rfl (by rfl) rfl ?_
          refine XL.as rfl rfl ?_
          refine XL.nil ?_
          refine XQ.thenN ?_
          refine XC.seq ?_
          refine XC.reg ?_
          refine XL.mv rfl rfl ?_
          refine XL.bin rfl rfl rfl (bNeI) ?_
          refine XL.nil ?_
          refine XQ.thenN ?_
          refine XC.condF' rfl (decide_eq_false (fun hh => hh h0)) ?_
          refine XC.skip ?_
          refine XQ.blkN ?_
          refine XQ.thenN ?_
          refine XC.reg ?_
          refine XL.mv rfl rfl ?_
          refine XL.bin rfl rfl rfl (bAdd (by omega)) ?_
          refine XL.as rfl rfl ?_
          refine XL.nil ?_
          have hst := reR_step hz.2 h0
          generalize (appendM z.2 (fbody k)).2.2 = X1 at hst ⊢
          exact XQ.again (z.1 + 1, X1) (by dsimp only; exact ⟨by omega, hst⟩) (by dsimp only; omega) ⟨rfl, rfl, rfl, rfl, rfl, rfl, trivial⟩ (fun w h => by have h3 := Take.sat (t1.c <| t1.c tn) h; exact h3)
        · have hzV : z.2 = V0 := by have h1 := hz.2; rw [show z.1 = q by omega, hfh] at h1; exact (Option.some.inj h1).symm
          refine XC.to (fun w h => (by rw [hzV] at h; exact h : Sat [V0.C b1 bd, F] w)) ?_
          refine XC.exit ?_
          refine XQ.thenE ?_
          refine XQ.thenE ?_
          refine XQ.blkE ?_
          refine XQ.thenN ?_
          refine XC.seq ?_
          refine XC.reg ?_
          refine XL.mv rfl rfl ?_
          refine XL.mv rfl rfl ?_
          refine XL.call hb_seglog_Log_Append rfl rfl (appT_fn b1 bd V0 (fbody k) hV (by omega)) (t0.c tn) ?_
          rintro _ _ ⟨rfl, rfl⟩
          simp only [List.cons_append, List.nil_append]
          refine XL.mv rfl rfl ?_
          refine XL.ex rfl rfl rfl ?_
          refine XL.ex rfl rfl rfl ?_
          refine XL.al z_seglog_Record rfl (fun b17 => ?_)
          refine XL.stM g_seglog_Record rfl rfl rfl (by rfl) rfl ?_
          refine XL.as rfl rfl ?_
          refine XL.nil ?_
          refine XQ.thenN ?_
          refine XC.seq ?_
          refine XC.perm (t1.c <| t1.c tn) ?_
          refine XC.opn t0 ?_
          rintro ⟨v9⟩
          dsimp only [List.cons_append, List.nil_append]
          refine XC.reg ?_
          refine XL.mv rfl rfl ?_
          refine XL.call hb_seglog_Open rfl rfl (openT_fn bd (appendM V0 (fbody k)).2.2.D W0 out hX.ok.good hX.ok.d (by rw [hX.q]; simp) hf.j) (t1.c tn) ?_
          rintro _ _ ⟨b2, vo2, rfl, rfl⟩
          simp only [List.cons_append, List.nil_append]
          refine XL.mv rfl rfl ?_
          refine XL.ex rfl rfl rfl ?_
          refine XL.ex rfl rfl rfl ?_
          refine XL.ex rfl rfl rfl ?_
          refine XL.as rfl rfl ?_
          refine XL.as rfl rfl ?_
          refine XL.as rfl rfl ?_
          refine XL.nil ?_
          refine XQ.thenN ?_
          refine XC.seq ?_
          refine XC.reg ?_
          refine XL.mv rfl rfl ?_
          refine XL.bin rfl rfl rfl (bEqI) ?_
          refine XL.mv rfl rfl ?_
          refine XL.re 112 (u := .bool true) rfl (congrArg Value.bool (decide_eq_true hf.i)) ?_
          refine XL.mv rfl rfl ?_
          refine XL.bin rfl rfl rfl (bEqI) ?_
          refine XL.pkT rfl rfl rfl ?_
          refine XL.mv rfl rfl ?_
          refine XL.re 116 (u := .bool true) rfl (congrArg Value.bool (decide_eq_true (by omega))) ?_
          refine XL.mv rfl rfl ?_
          refine XL.lenS e_L_seglog_Record rfl rfl ?_
          refine XL.mv rfl rfl ?_
          refine XL.bin rfl rfl rfl (bMul (by omega)) ?_
          refine XL.bin rfl rfl rfl (bEqI) ?_
          refine XL.pkT rfl rfl rfl ?_
          refine XL.mv rfl rfl ?_
          refine XL.re 123 (u := .bool true) rfl (congrArg Value.bool (decide_eq_true (by have := hf.m; omega))) ?_
          refine XL.mv rfl rfl ?_
          refine XL.ixS 0 e_L_seglog_Record rfl rfl rfl (by have := hf.m; omega) rfl (fun b125 _ => ?_)
          refine XL.fa fo_seglog_Record_0 rfl rfl ?_
          refine XL.ldSf (o := 0) o_int rfl (by have := hf.m; omega) rfl rfl ?_
          refine XL.mv rfl rfl ?_
          refine XL.bin rfl rfl rfl (bEqI) ?_
          refine XL.pkT rfl rfl rfl ?_
          refine XL.mv rfl rfl ?_
          refine XL.re 131 (u := .bool true) rfl (congrArg Value.bool (decide_eq_true (by rw [hf.n]))) ?_
          refine XL.mv rfl rfl ?_
          refine XL.mv rfl rfl ?_
          refine XL.lenS e_L_seglog_Record rfl rfl ?_
          refine XL.bin rfl rfl rfl (bSub (by have := hf.m; omega)) ?_
          refine XL.ixS (out.length - 1) e_L_seglog_Record rfl rfl (by have := hf.m; omega) (by have := hf.m; omega) rfl (fun b136 _ => ?_)
          refine XL.fa fo_seglog_Record_0 rfl rfl ?_
          refine XL.ldSf (o := 0) o_int rfl (by have := hf.m; omega) rfl rfl ?_
          refine XL.mv rfl rfl ?_
          refine XL.bin rfl rfl rfl (bMul (by omega)) ?_
          refine XL.bin rfl rfl rfl (bSub (by omega)) ?_
          refine XL.bin rfl rfl rfl (bEqI) ?_
          refine XL.pkT rfl rfl rfl ?_
          refine XL.as rfl rfl ?_
          refine XL.nil ?_
          refine XQ.thenN ?_
          refine XC.ret ?_
          exact XQ.ret (.inl rfl) rfl (rC (resT rfl) <| rN) [] (⟨congrArg Value.bool (decide_eq_true (by have := hf.m; rw [hf.o]; omega)), rfl⟩) (fun w h => by first | exact Take.sat (t3.c tn) h | exact Take.sat (t4.c tn) h | exact Take.sat (t5.c tn) h | exact Take.sat (t6.c tn) h)
      · have h0 : (appendM z.2 (fbody k)).2.1 = 0 := Decidable.not_not.1 hc3
        have h4 : z.1 < 4 * q := by rcases Nat.lt_or_ge z.1 (4 * q) with h | h; exact h; exact absurd h0 (by have h1 := hz.2; rw [show z.1 = 4 * q by omega, hf.a] at h1; rw [← Option.some.inj h1, hf.b]; simp)
        refine XC.skip ?_
        refine XQ.thenN ?_
        refine XC.reg ?_
        refine XL.mv rfl rfl ?_
        refine XL.bin rfl rfl rfl (bAdd (by omega)) ?_
        refine XL.as rfl rfl ?_
        refine XL.nil ?_
        refine XQ.blkN ?_
        have hst := reR_step hz.2 h0
        generalize (appendM z.2 (fbody k)).2.2 = X1 at hst ⊢
        exact XQ.again (z.1 + 1, X1) (by dsimp only; exact ⟨by omega, hst⟩) (by dsimp only; omega) ⟨rfl, rfl, rfl, rfl, rfl, rfl, trivial⟩ (fun w h => by have h3 := Take.sat (t1.c <| t1.c tn) h; exact h3)
end Go.Proofs.YthlfbndanknnmaaDoor
