/-
  The statement SeglogScripts. Printed by mk.py out of spec_k05y.py.
-/
import Derived.Test.YthlfbndanknnmaaDoorSxK05x
namespace Go.Proofs.YthlfbndanknnmaaDoor
open Go Go.Sx

abbrev shAct : Sh := .sl (.agg [.int .i64, .int .i64, .str]) 32
structure ActIn (w0 : World) (v1 : Value) (len j : Nat) (b o cap : Nat) (a m : Int) (t : List UInt8) : Prop where
  v : v1 = .slice (some ⟨b, o, none⟩) len cap
  c : ∀ k u, [Value.int .i64 a, .int .i64 m, Go.Sx.S t][k]? = some u → w0.cell? ⟨b, o + j * 3 + k, none⟩ = some u
  t : t.length ≤ 140737488351232
theorem act_read {w0 : World} {v1 : Value} {ds : List Dv} (h : Rd w0 140737488351232 shAct [v1] (.sl ds)) : ds.length ≤ 140737488351232 ∧ (∃ p cap, v1 = .slice p ds.length cap) ∧ ∀ j, j < ds.length → ∃ b o cap a m t, ActIn w0 v1 ds.length j b o cap a m t := by
  unfold shAct Rd at h
  rcases h with ⟨h1, rfl⟩ | ⟨p, cap, h1, h2, h3⟩
  · have e : v1 = .slice none 0 0 := by simpa using h1
    exact ⟨Nat.zero_le _, ⟨none, 0, e⟩, fun j hj => absurd hj (Nat.not_lt_zero _)⟩
  · have e : v1 = .slice (some p) ds.length cap := by simpa using h1
    refine ⟨by omega, ⟨_, _, e⟩, fun j hj => ?_⟩
    obtain ⟨b, o, rfl, cs, k1, k2, k3⟩ := h3 j hj
    generalize ds[j] = d at k3
    cases d with
    | agg l =>
      unfold Rd at k3
      match l, k3 with
      | [], k3 => exact absurd k3 (by simp [RdL])
      | [_], k3 => obtain ⟨_, _, _, _, _, h⟩ := k3; exact absurd h (by simp [RdL])
      | [_, _], k3 => obtain ⟨_, _, _, _, _, _, _, _, _, _, h⟩ := k3; exact absurd h (by simp [RdL])
      | [d1, d2, d3], k3 =>
        obtain ⟨c1, _, rfl, _, r1, c2, _, rfl, _, r2, c3, _, rfl, _, r3, r4⟩ := k3
        cases d1 <;> simp only [Rd] at r1
        cases d2 <;> simp only [Rd] at r2
        cases d3 <;> simp only [Rd] at r3
        rename_i a m t
        obtain ⟨rfl, _⟩ := r1
        obtain ⟨rfl, _⟩ := r2
        obtain ⟨rfl, ht⟩ := r3
        have r5 : _ = [] := r4
        subst r5
        exact ⟨b, o, cap, a, m, t, e, fun k u hk => k2 k u hk, ht⟩
      | _ :: _ :: _ :: _ :: _, k3 =>
        obtain ⟨_, _, _, _, _, _, _, _, _, _, _, _, _, _, _, h⟩ := k3
        exact absurd h (by simp [RdL])
    | _ => exact absurd k3 (by simp [Rd])
structure ScZ where
  i : Nat
  S : LogS
  gs : List Gr
  W : RefL
  va : Value
  b : Nat
theorem segsN_law {N : Nat} (h1 : 66 ≤ N) (h2 : N ≤ 115) : ((N : Int) - 2) / 16 = (segsN N : Int) := by unfold segsN; omega
theorem rem6 (a : Int) : 0 ≤ (a.tmod 6 + 6).tmod 6 ∧ (a.tmod 6 + 6).tmod 6 < 6 ∧ -6 < a.tmod 6 ∧ a.tmod 6 < 6 := by
  have h1 : -6 < a.tmod 6 ∧ a.tmod 6 < 6 := ⟨by have := Int.lt_tmod_of_pos a (show (0:Int) < 6 by decide); omega, Int.tmod_lt_of_pos a (by decide)⟩
  exact ⟨Int.tmod_nonneg _ (by omega), Int.tmod_lt_of_pos _ (by decide), h1⟩

theorem coraclelaw05_SeglogScripts_fn (n : Int) (w0 : World) (v1 : Value) (ds : List Dv) (hrd : Rd w0 140737488351232 shAct [v1] (.sl ds)) : Does P F_coraclelaw05_SeglogScripts [.int .i64 n, v1] [old w0] fun v cs => v = .bool true ∧ cs = [old w0] := by
  refine Does.mk (N := 165) fn_coraclelaw05_SeglogScripts rfl rfl rfl (fun F => ?_)
  simp only [List.cons_append, List.nil_append]
  obtain ⟨hdl, ⟨p, cap, rfl⟩, hact⟩ := act_read hrd
  obtain ⟨N, hN⟩ : ∃ N, diskN n = N := ⟨_, rfl⟩
  have hN1 := (diskN_eq n).2
  rw [hN] at hN1
  obtain ⟨hinit, hinv0⟩ := step_init (N := N) (by omega) (by omega)
  refine XC.seq ?_
  refine XC.reg ?_
  refine XL.as rfl rfl ?_
  refine XL.nil ?_
  refine XQ.thenN ?_
  refine XC.seq ?_
  refine XC.seq ?_
  refine XC.reg ?_
  refine XL.call hb_coraclelaw05_speaks rfl rfl (coraclelaw05_speaks_fn) (tn) ?_
  rintro _ _ ⟨rfl, rfl⟩
  simp only [List.cons_append, List.nil_append]
  refine XL.notT rfl rfl ?_
  refine XL.nil ?_
  refine XQ.thenN ?_
  refine XC.condF' rfl (rfl) ?_
  refine XC.skip ?_
  refine XQ.thenN ?_
  refine XC.seq ?_
  refine XC.reg ?_
  refine XL.mv rfl rfl ?_
  refine XL.call hb_coraclelaw05_disk rfl rfl (coraclelaw05_disk_fn n) tn ?_
  rintro _ _ ⟨bd, rfl, rfl⟩
  simp only [List.cons_append, List.nil_append]
  rw [hN]
  refine XL.mv rfl rfl ?_
  refine XL.ex rfl rfl rfl ?_
  refine XL.ex rfl rfl rfl ?_
  refine XL.as rfl rfl ?_
  refine XL.as rfl rfl ?_
  refine XL.nil ?_
  refine XQ.thenN ?_
  refine XC.seq ?_
  refine XC.reg ?_
  refine XL.mv rfl rfl ?_
  refine XL.bin rfl rfl rfl (bSub (by omega)) ?_
  refine XL.bin rfl rfl rfl (bQuo (by omega)) (XL.re 31 (u := .int .i64 (segsN N : Int)) rfl (congrArg (Value.int .i64) (segsN_law (by omega) (by omega))) ?_)
  refine XL.bs (enc := encN) [0] e_L_int z_int rfl rfl rfl (by intro x hx; rfl) rfl (fun v32 _ => ?_)
  refine XL.bs (enc := encN) [0] e_L_int z_int rfl rfl rfl (by intro x hx; rfl) rfl (fun v33 _ => ?_)
  refine XL.bd z_coracleref05_Log p_coracleref05_Log rfl rfl ?_
  refine XL.bx rfl rfl rfl (fun br => ?_)
  refine XL.as rfl rfl ?_
  refine XL.nil ?_
  refine XQ.thenN ?_
  refine XC.seq ?_
  refine XC.seq ?_
  refine XC.reg ?_
  refine XL.mv rfl rfl ?_
  refine XL.call hb_seglog_Format rfl rfl (seglog_Format_fn bd (DiskS.new N) (good_new (by omega)) (by simp [DiskS.new]; omega) (by simp [DiskS.new])) (t3.c tn) ?_
  rintro _ _ ⟨rfl, rfl⟩
  simp only [List.cons_append, List.nil_append]
  refine XL.bin rfl rfl rfl (bNeI) ?_
  refine XL.nil ?_
  refine XQ.thenN ?_
  refine XC.condF' rfl (decide_eq_false (by omega)) ?_
  refine XC.skip ?_
  refine XQ.thenN ?_
  refine XC.seq ?_
  refine XC.reg ?_
  refine XL.mv rfl rfl ?_
  refine XL.call hb_seglog_Open rfl rfl (openT_fn bd (formatM (DiskS.new N)) (saveM (fmtS N) ck0.nb) [] (format_good (good_new (by omega)) (by simp [DiskS.new]) (by simp [DiskS.new]; omega)).1 (by rw [fmt_len]; omega) (by rw [(format_good (good_new (n := N) (by omega)) (by simp [DiskS.new]) (by simp [DiskS.new]; omega)).2.2]; simp) hinit) (t0.c tn) ?_
  rintro _ _ ⟨b1, vo1, rfl, rfl⟩
  simp only [List.cons_append, List.nil_append]
  refine XL.mv rfl rfl ?_
  refine XL.ex rfl rfl rfl ?_
  refine XL.ex rfl rfl rfl ?_
  refine XL.ex rfl rfl rfl ?_
  refine XL.as rfl rfl ?_
  refine XL.as rfl rfl ?_
  refine XL.as rfl rfl ?_
  refine XL.nil ?_
  refine XQ.thenN ?_
  refine XC.seq ?_
  refine XC.reg ?_
  refine XL.as rfl rfl ?_
  refine XL.nil ?_
  refine XQ.thenN ?_
  refine XC.seq ?_
  refine XC.seq ?_
  refine XC.reg ?_
  refine XL.as rfl rfl ?_
  refine XL.nil ?_
  refine XQ.thenN ?_
  refine XC.block ?_
  refine XC.loop (ι := ScZ) (fun z => [(1, .slice p ds.length cap), (5, .pointer (some ⟨bd, 0, none⟩)), (7, .pointer (some ⟨br, 0, none⟩)), (8, .pointer (some ⟨z.b, 0, none⟩)), (10, .int .i64 0), (11, z.va), (12, .int .i64 (z.i : Int))]) (fun z => [z.S.C z.b bd, refC br z.W, sl z.va encR (recL z.gs) T_coracleref05_Record 3, old w0, F]) (fun z => z.i ≤ ds.length ∧ Inv N z.i z.S z.gs z.W) (fun z => ds.length - z.i) ⟨0, saveM (fmtS N) ck0.nb, [(0, [])], refZ N, .slice none 0 0, b1⟩ ⟨Nat.zero_le _, hinv0⟩ ⟨rfl, rfl, rfl, rfl, rfl, rfl, rfl, trivial⟩ (fun w h => Take.sat (t2.c <| t1.c <| t0.c <| t0.c tall) (sl_nil (enc := encR) (e := T_coracleref05_Record) (sz := 3) (Sat.shut ⟨v32, v33⟩ (Take.sat (t2.c <| t3.c <| t2.c <| t0.c <| t1.c <| t1.c tn) h)))) (fun z hz => ?_)
  refine XC.seq ?_
  refine XC.seq ?_
  refine XC.reg ?_
  refine XL.mv rfl rfl ?_
  refine XL.mv rfl rfl ?_
  refine XL.lenW e_L_coraclelaw05_Act rfl rfl ?_
  refine XL.bin rfl rfl rfl (bLss) ?_
  refine XL.mv rfl rfl ?_
  refine XL.split 49 rfl (fun hg49 => ?_) (fun hg49 => ?_)
  · refine XL.mv rfl rfl ?_
    refine XL.bin rfl rfl rfl (bEqI) ?_
    refine XL.pkT rfl rfl rfl ?_
    refine XL.nil ?_
    refine XQ.thenN ?_
    refine XC.condT' rfl (decide_eq_true (by omega)) ?_
    refine XC.skip ?_
    refine XQ.thenN ?_
    refine XC.seq ?_
    refine XC.block ?_
    refine XC.seq ?_
    have hlt : z.i < ds.length := by omega
    obtain ⟨b1o, o1, cap1, a, m, t, ht⟩ := hact z.i hlt
    obtain ⟨hx0, hx6, ha1, ha2⟩ := rem6 a
    refine XC.re 1 (u := .slice (some ⟨b1o, o1, none⟩) ds.length cap1) rfl ht.v ?_
    refine XC.reg ?_
    refine XL.mv rfl rfl ?_
    refine XL.mv rfl rfl ?_
    refine XL.ixO z.i e_L_coraclelaw05_Act rfl rfl rfl hlt rfl ?_
    refine XL.ldOM (vs := [.int .i64 a, .int .i64 m, Go.Sx.S t]) g_coraclelaw05_Act rfl rfl ht.c rfl ?_
    refine XL.al z_coraclelaw05_Act rfl (fun b13 => ?_)
    refine XL.stM g_coraclelaw05_Act rfl rfl rfl (by rfl) rfl ?_
    refine XL.nil ?_
    refine XQ.thenN ?_
    refine XC.seqJ (ι := ScZ) (fun z2 => [(1, .slice p ds.length cap), (5, .pointer (some ⟨bd, 0, none⟩)), (7, .pointer (some ⟨br, 0, none⟩)), (8, .pointer (some ⟨z2.b, 0, none⟩)), (10, .int .i64 0), (11, z2.va), (12, .int .i64 (z.i : Int))]) (fun z2 => [z2.S.C z2.b bd, refC br z2.W, sl z2.va encR (recL z2.gs) T_coracleref05_Record 3, old w0, F]) (fun z2 => z2.i = z.i ∧ Inv N (z.i + 1) z2.S z2.gs z2.W) ?_ (fun z2 hz2 => ?_)
    · refine XC.seq ?_
      refine XC.reg ?_
      refine XL.fa fo_coraclelaw05_Act_0 rfl rfl ?_
      refine XL.ld o_int rfl (by rfl) rfl ?_
      refine XL.bin rfl rfl rfl (bRemT (by omega)) ?_
      refine XL.bin rfl rfl rfl (bAdd (by omega)) ?_
      refine XL.bin rfl rfl rfl (bRemT (by omega)) ?_
      refine XL.nil ?_
      refine XQ.thenN ?_
      refine XC.block ?_
      obtain ⟨x, hx⟩ : ∃ x, (a.tmod 6 + 6).tmod 6 = x := ⟨_, rfl⟩
      rw [hx] at hx0 hx6
      refine XC.re 63 (u := .int .i64 x) rfl (congrArg (Value.int .i64) hx) ?_
      refine XC.re 1 (u := .slice p ds.length cap) rfl ht.v.symm ?_
      refine XC.seqJ (ι := Unit) (fun _ => [(1, .slice p ds.length cap), (5, .pointer (some ⟨bd, 0, none⟩)), (7, .pointer (some ⟨br, 0, none⟩)), (8, .pointer (some ⟨z.b, 0, none⟩)), (10, .int .i64 0), (11, z.va), (12, .int .i64 (z.i : Int)), (13, .pointer (some ⟨b13, 0, none⟩)), (63, .int .i64 x), (85, .bool (decide (x < 4)))]) (fun _ => [blk b13 [.int .i64 a, .int .i64 m, Go.Sx.S t] T_coraclelaw05_Act, z.S.C z.b bd, refC br z.W, sl z.va encR (recL z.gs) T_coracleref05_Record 3, old w0, F]) (fun _ => True) ?_ (fun _ _ => ?_)
      · refine XC.seq ?_
        refine XC.reg ?_
        refine XL.bin rfl rfl rfl (bEqI) ?_
        refine XL.as rfl rfl ?_
        refine XL.nil ?_
        refine XQ.thenN ?_
        refine XC.cond rfl (fun hc3 => ?_) (fun hc3 => ?_)
        · refine XC.re 85 (u := .bool (decide (x < 4))) rfl (congrArg Value.bool (by rw [decide_eq_true (show x < 4 by omega), decide_eq_true hc3])) ?_
          refine XC.skip ?_
          exact XQ.join () trivial ⟨rfl, rfl, rfl, rfl, rfl, rfl, rfl, rfl, rfl, rfl, trivial⟩ (fun w h => h)
        · refine XC.seq ?_
          refine XC.reg ?_
          refine XL.bin rfl rfl rfl (bEqI) ?_
          refine XL.as rfl rfl ?_
          refine XL.nil ?_
          refine XQ.thenN ?_
          refine XC.cond rfl (fun hc4 => ?_) (fun hc4 => ?_)
          · refine XC.re 85 (u := .bool (decide (x < 4))) rfl (congrArg Value.bool (by rw [decide_eq_true (show x < 4 by omega), decide_eq_true hc4])) ?_
            refine XC.skip ?_
            exact XQ.join () trivial ⟨rfl, rfl, rfl, rfl, rfl, rfl, rfl, rfl, rfl, rfl, trivial⟩ (fun w h => h)
          · refine XC.seq ?_
            refine XC.reg ?_
            refine XL.bin rfl rfl rfl (bEqI) ?_
            refine XL.as rfl rfl ?_
            refine XL.nil ?_
            refine XQ.thenN ?_
            refine XC.cond rfl (fun hc5 => ?_) (fun hc5 => ?_)
            · refine XC.re 85 (u := .bool (decide (x < 4))) rfl (congrArg Value.bool (by rw [decide_eq_true (show x < 4 by omega), decide_eq_true hc5])) ?_
              refine XC.skip ?_
              exact XQ.join () trivial ⟨rfl, rfl, rfl, rfl, rfl, rfl, rfl, rfl, rfl, rfl, trivial⟩ (fun w h => h)
            · refine XC.reg ?_
              refine XL.bin rfl rfl rfl (bEqI) ?_
              refine XL.as rfl rfl (XL.re 85 (u := .bool (decide (x < 4))) rfl (congrArg Value.bool (by rw [Bool.eq_iff_iff]; simp only [decide_eq_true_eq]; omega)) ?_)
              refine XL.nil ?_
              exact XQ.join () trivial ⟨rfl, rfl, rfl, rfl, rfl, rfl, rfl, rfl, rfl, rfl, trivial⟩ (fun w h => h)
      · refine XC.cond rfl (fun hc6 => ?_) (fun hc6 => ?_)
        · refine XC.seq ?_
          have hst := step_append hz.2 (by omega) (bodyM m t)
          obtain ⟨gs2, hinv, hrec⟩ := hst.2.2
          refine XC.reg ?_
          refine XL.mv rfl rfl ?_
          refine XL.ldM g_coraclelaw05_Act rfl (by rfl) rfl ?_
          refine XL.call hb_coraclelaw05_body rfl rfl (coraclelaw05_body_fn a m t ht.t) (tn) ?_
          rintro _ _ ⟨rfl, rfl⟩
          simp only [List.cons_append, List.nil_append]
          refine XL.call hb_seglog_Log_Append rfl rfl (appT_fn z.b bd z.S (bodyM m t) hz.2.l (by have := bodyM_len m t; have := ht.t; omega)) (t1.c tn) ?_
          rintro _ _ ⟨rfl, rfl⟩
          simp only [List.cons_append, List.nil_append]
          refine XL.mv rfl rfl ?_
          refine XL.ex rfl rfl rfl ?_
          refine XL.ex rfl rfl rfl ?_
          refine XL.al z_seglog_Record rfl (fun b14 => ?_)
          refine XL.stM g_seglog_Record rfl rfl rfl (by rfl) rfl ?_
          refine XL.as rfl rfl ?_
          refine XL.nil ?_
          refine XQ.thenN ?_
          refine XC.seq ?_
          refine XC.reg ?_
          refine XL.mv rfl rfl ?_
          refine XL.ldM g_coraclelaw05_Act rfl (by rfl) rfl ?_
          refine XL.call hb_coraclelaw05_body rfl rfl (coraclelaw05_body_fn a m t ht.t) (tn) ?_
          rintro _ _ ⟨rfl, rfl⟩
          simp only [List.cons_append, List.nil_append]
          refine XL.call hb_coracleref05_Append rfl rfl (coracleref05_Append_fn br z.W (bodyM m t) (hz.2.r.ok hz.2.d hz.2.l) (by have := bodyM_len m t; have := ht.t; omega)) (t3.c tn) ?_
          rintro _ _ ⟨rfl, rfl⟩
          simp only [List.cons_append, List.nil_append]
          refine XL.mv rfl rfl ?_
          refine XL.ex rfl rfl rfl ?_
          refine XL.ex rfl rfl rfl ?_
          refine XL.al z_coracleref05_Record rfl (fun b16 => ?_)
          refine XL.stM g_coracleref05_Record rfl rfl rfl (by rfl) rfl ?_
          refine XL.as rfl rfl ?_
          refine XL.nil ?_
          refine XQ.thenN ?_
          refine XC.seq ?_
          refine XC.seq ?_
          refine XC.reg ?_
          refine XL.mv rfl rfl ?_
          refine XL.mv rfl rfl ?_
          refine XL.bin rfl rfl rfl (bNeI) ?_
          refine XL.mv rfl rfl ?_
          refine XL.re 107 (u := .bool false) rfl (congrArg Value.bool (decide_eq_false (fun h => h hst.2.1))) ?_
          refine XL.ldM g_seglog_Record rfl (by rfl) rfl ?_
          refine XL.ldM g_coracleref05_Record rfl (by rfl) rfl ?_
          refine XL.bin rfl rfl rfl (bNeSt eqs_coracleref05_Record) ?_
          refine XL.pkF rfl rfl rfl ?_
          refine XL.nil ?_
          refine XQ.thenN ?_
          refine XC.condF' rfl (by rw [hst.1, encR_inj, decide_eq_true rfl]; rfl) ?_
          refine XC.skip ?_
          refine XQ.thenN ?_
          refine XC.seq ?_
          refine XC.reg ?_
          refine XL.mv rfl rfl ?_
          refine XL.bin rfl rfl rfl (bEqI) ?_
          refine XL.nil ?_
          refine XQ.thenN ?_
          refine XC.cond rfl (fun hc8 => ?_) (fun hc8 => ?_)
          · refine XC.reg ?_
            refine XL.mv rfl rfl ?_
            refine XL.ldM g_coracleref05_Record rfl (by rfl) rfl ?_
            refine XL.bs (enc := encR) [(refApp z.W (bodyM m t)).1] e_L_coracleref05_Record z_coracleref05_Record rfl rfl rfl (by intro x hx; rfl) rfl (fun v116 _ => ?_)
            refine XL.app [(refApp z.W (bodyM m t)).1] e_L_coracleref05_Record e_L_coracleref05_Record z_coracleref05_Record rfl rfl rfl rfl (fun x _ => encR_one x) (by have := inv_len hz.2; simp only [List.length_singleton]; omega) rfl (fun v117 _ => ?_)
            refine XL.as rfl rfl ?_
            refine XL.nil ?_
            refine XQ.blkN ?_
            generalize (appendM z.S (bodyM m t)).2.2 = X1 at hinv ⊢
            generalize (refApp z.W (bodyM m t)).2.2 = X2 at hinv ⊢
            exact XQ.join ⟨z.i, X1, gs2, X2, v117, z.b⟩ ⟨rfl, hinv⟩ ⟨rfl, rfl, rfl, rfl, rfl, rfl, rfl, trivial⟩ (fun w h => by (have h3 := Take.sat (t5.c <| t3.c <| t0.c <| t4.c <| t4.c tn) h); rw [if_pos hc8] at hrec; rw [← hrec] at h3; exact h3)
          · refine XC.skip ?_
            refine XQ.blkN ?_
            generalize (appendM z.S (bodyM m t)).2.2 = X1 at hinv ⊢
            generalize (refApp z.W (bodyM m t)).2.2 = X2 at hinv ⊢
            exact XQ.join ⟨z.i, X1, gs2, X2, z.va, z.b⟩ ⟨rfl, hinv⟩ ⟨rfl, rfl, rfl, rfl, rfl, rfl, rfl, trivial⟩ (fun w h => by (have h3 := Take.sat (t3.c <| t1.c <| t3.c <| t3.c <| t3.c tn) h); rw [if_neg hc8] at hrec; rw [← hrec] at h3; exact h3)
        · refine XC.seq ?_
          refine XC.reg ?_
          refine XL.bin rfl rfl rfl (bEqI) ?_
          refine XL.as rfl rfl ?_
          refine XL.nil ?_
          refine XQ.thenN ?_
          refine XC.cond rfl (fun hc9 => ?_) (fun hc9 => ?_)
          · refine XC.seq ?_
            have hst := step_drop hz.2 (by omega) m
            obtain ⟨gs2, hinv, hrec⟩ := hst.2
            refine XC.reg ?_
            refine XL.mv rfl rfl ?_
            refine XL.fa fo_coraclelaw05_Act_1 rfl rfl ?_
            refine XL.ld o_int rfl (by rfl) rfl ?_
            refine XL.call hb_seglog_Log_Drop rfl rfl (seglog_Log_Drop_fn z.b bd z.S m hz.2.l.ok (by rw [hz.2.l.q]; simp)) (t1.c tn) ?_
            rintro _ _ ⟨rfl, rfl⟩
            simp only [List.cons_append, List.nil_append]
            refine XL.as rfl rfl ?_
            refine XL.nil ?_
            refine XQ.thenN ?_
            refine XC.seq ?_
            refine XC.seq ?_
            refine XC.reg ?_
            refine XL.mv rfl rfl ?_
            refine XL.mv rfl rfl ?_
            refine XL.fa fo_coraclelaw05_Act_1 rfl rfl ?_
            refine XL.ld o_int rfl (by rfl) rfl ?_
            refine XL.call hb_coracleref05_Drop rfl rfl (coracleref05_Drop_fn br z.W m (hz.2.r.ok hz.2.d hz.2.l)) (t2.c tn) ?_
            rintro _ _ ⟨rfl, rfl⟩
            simp only [List.cons_append, List.nil_append]
            refine XL.bin rfl rfl rfl (bNeI) ?_
            refine XL.nil ?_
            refine XQ.thenN ?_
            refine XC.condF' rfl (decide_eq_false (fun h => h hst.1)) ?_
            refine XC.skip ?_
            refine XQ.thenN ?_
            refine XC.seq ?_
            refine XC.reg ?_
            refine XL.mv rfl rfl ?_
            refine XL.bin rfl rfl rfl (bEqI) ?_
            refine XL.nil ?_
            refine XQ.thenN ?_
            refine XC.cond rfl (fun hc11 => ?_) (fun hc11 => ?_)
            · refine XC.seq ?_
              refine XC.reg ?_
              refine XL.as rfl rfl ?_
              refine XL.nil ?_
              refine XQ.thenN ?_
              refine XC.seq ?_
              refine XC.seq ?_
              refine XC.to (fun w h => sl_nil (enc := encR) (e := T_coracleref05_Record) (sz := 3) h) ?_
              refine XC.reg ?_
              refine XL.as rfl rfl ?_
              refine XL.nil ?_
              refine XQ.thenN ?_
              refine XC.block ?_
              refine XC.loop (ι := Nat × Value) (fun y => [(1, .slice p ds.length cap), (5, .pointer (some ⟨bd, 0, none⟩)), (7, .pointer (some ⟨br, 0, none⟩)), (8, .pointer (some ⟨z.b, 0, none⟩)), (10, .int .i64 0), (11, z.va), (12, .int .i64 (z.i : Int)), (13, .pointer (some ⟨b13, 0, none⟩)), (19, y.2), (20, .int .i64 (y.1 : Int))]) (fun y => [sl y.2 encR (((recL z.gs).take y.1).filter (fun r : RecS => decide ((r.seg : Int) ≠ m))) T_coracleref05_Record 3, refC br (refDrop z.W m (z.W.ids.length - 1)).2, (dropM z.S m).2.C z.b bd, blk b13 [.int .i64 a, .int .i64 m, Go.Sx.S t] T_coraclelaw05_Act, sl z.va encR (recL z.gs) T_coracleref05_Record 3, old w0, F]) (fun y => y.1 ≤ (recL z.gs).length) (fun y => (recL z.gs).length - y.1) (0, .slice none 0 0) (Nat.zero_le _) ⟨rfl, rfl, rfl, rfl, rfl, rfl, rfl, rfl, rfl, rfl, trivial⟩ (fun w h => h) (fun y hy => ?_)
              refine XC.seq ?_
              refine XC.seq ?_
              refine XC.reg ?_
              refine XL.mv rfl rfl ?_
              refine XL.mv rfl rfl ?_
              refine XL.lenS e_L_coracleref05_Record rfl rfl ?_
              refine XL.bin rfl rfl rfl (bLss) ?_
              refine XL.nil ?_
              refine XQ.thenN ?_
              refine XC.cond rfl (fun hc12 => ?_) (fun hc12 => ?_)
              · have hyl : y.1 < (recL z.gs).length := by omega
                have hrl := inv_len hz.2
                refine XC.isAt z.va y.1 hyl (fun ba _ => ?_)
                refine XC.skip ?_
                refine XQ.thenN ?_
                refine XC.seq ?_
                refine XC.block ?_
                refine XC.seq ?_
                refine XC.drw (.q 0 <| .q 1 <| .q 2 <| .q 3 <| .q 4 <| .q 5 <| .q 6 <| .q 7 <| .done) mixed (by kernel_rfl) rfl ?_
                refine JP.qq rfl rfl rfl (XL.mv rfl rfl XL.qd) ?_
                refine JP.qq rfl rfl rfl (XL.mv rfl rfl XL.qd) ?_
                refine JP.qq rfl rfl rfl (XL.ixB y.1 e_L_coracleref05_Record rfl rfl rfl hyl rfl XL.qd) ?_
                refine JP.qq rfl rfl rfl (XL.fa fo_coracleref05_Record_1 rfl rfl XL.qd) ?_
                refine JP.qq rfl rfl rfl (XL.ldSf (o := 1) o_int rfl hyl rfl rfl XL.qd) ?_
                refine JP.qq rfl rfl rfl (XL.fa fo_coraclelaw05_Act_1 rfl rfl XL.qd) ?_
                refine JP.qq rfl rfl rfl (XL.ld o_int rfl (by rfl) rfl XL.qd) ?_
                refine JP.qq rfl rfl rfl (XL.bin rfl rfl rfl (bNeI) XL.qd) ?_
                refine JP.done ?_
                refine XQ.thenN ?_
                refine XC.cond rfl (fun hc13 => ?_) (fun hc13 => ?_)
                · refine XC.reg ?_
                  refine XL.mv rfl rfl ?_
                  refine XL.mv rfl rfl ?_
                  refine XL.mv rfl rfl ?_
                  refine XL.ixS y.1 e_L_coracleref05_Record rfl rfl rfl hyl rfl (fun b149 _ => ?_)
                  refine XL.ldSN g_coracleref05_Record rfl hyl rfl ?_
                  refine XL.bs (enc := encR) [(recL z.gs)[y.1]] e_L_coracleref05_Record z_coracleref05_Record rfl rfl rfl (by intro x hx; rfl) rfl (fun v151 _ => ?_)
                  refine XL.app [(recL z.gs)[y.1]] e_L_coracleref05_Record e_L_coracleref05_Record z_coracleref05_Record rfl rfl rfl rfl (fun x _ => encR_one x) (by have := inv_len hz.2; have h5 := List.length_filter_le (fun r : RecS => decide ((r.seg : Int) ≠ m)) ((recL z.gs).take y.1); rw [List.length_take] at h5; simp only [List.length_singleton]; omega) rfl (fun v152 _ => ?_)
                  refine XL.as rfl rfl ?_
                  refine XL.nil ?_
                  refine XQ.blkN ?_
                  refine XQ.thenN ?_
                  refine XC.reg ?_
                  refine XL.mv rfl rfl ?_
                  refine XL.bin rfl rfl rfl (bAdd (by omega)) ?_
                  refine XL.as rfl rfl ?_
                  refine XL.nil ?_
                  have hf : ((recL z.gs).take (y.1 + 1)).filter (fun r : RecS => decide ((r.seg : Int) ≠ m)) = ((recL z.gs).take y.1).filter (fun r : RecS => decide ((r.seg : Int) ≠ m)) ++ [(recL z.gs)[y.1]] := by rw [List.take_succ_eq_append_getElem hyl, List.filter_append, List.filter_cons_of_pos (p := (fun r : RecS => decide ((r.seg : Int) ≠ m))) (decide_eq_true hc13), List.filter_nil]
                  exact XQ.again (y.1 + 1, v152) (by dsimp only; omega) (by dsimp only; omega) ⟨rfl, rfl, rfl, rfl, rfl, rfl, rfl, rfl, rfl, rfl, trivial⟩ (fun w h => by rw [hf]; exact Take.sat (t0.c <| t1.c <| t1.c <| t1.c <| t1.c <| t1.c <| t1.c tn) h)
                · refine XC.skip ?_
                  refine XQ.blkN ?_
                  refine XQ.thenN ?_
                  refine XC.reg ?_
                  refine XL.mv rfl rfl ?_
                  refine XL.bin rfl rfl rfl (bAdd (by omega)) ?_
                  refine XL.as rfl rfl ?_
                  refine XL.nil ?_
                  have hf : ((recL z.gs).take (y.1 + 1)).filter (fun r : RecS => decide ((r.seg : Int) ≠ m)) = ((recL z.gs).take y.1).filter (fun r : RecS => decide ((r.seg : Int) ≠ m)) := by rw [List.take_succ_eq_append_getElem hyl, List.filter_append, List.filter_cons_of_neg (p := (fun r : RecS => decide ((r.seg : Int) ≠ m))) (by rw [decide_eq_false hc13]; decide), List.filter_nil, List.append_nil]
                  exact XQ.again (y.1 + 1, y.2) (by dsimp only; omega) (by dsimp only; omega) ⟨rfl, rfl, rfl, rfl, rfl, rfl, rfl, rfl, rfl, rfl, trivial⟩ (fun w h => by rw [hf]; exact h)
              · refine XC.exit ?_
                refine XQ.thenE ?_
                refine XQ.thenE ?_
                refine XQ.blkE ?_
                refine XQ.thenN ?_
                refine XC.reg ?_
                refine XL.mv rfl rfl ?_
                refine XL.as rfl rfl ?_
                refine XL.nil ?_
                refine XQ.blkN ?_
                exact XQ.join ⟨z.i, (dropM z.S m).2, gs2, (refDrop z.W m (z.W.ids.length - 1)).2, y.2, z.b⟩ ⟨rfl, hinv⟩ ⟨rfl, rfl, rfl, rfl, rfl, rfl, rfl, trivial⟩ (fun w h => by (have h3 := Take.sat (t2.c <| t1.c <| t0.c <| t2.c <| t2.c tn) h); rw [if_pos hc11] at hrec; rw [List.take_of_length_le (by omega), ← hrec] at h3; exact h3)
            · refine XC.skip ?_
              refine XQ.blkN ?_
              exact XQ.join ⟨z.i, (dropM z.S m).2, gs2, (refDrop z.W m (z.W.ids.length - 1)).2, z.va, z.b⟩ ⟨rfl, hinv⟩ ⟨rfl, rfl, rfl, rfl, rfl, rfl, rfl, trivial⟩ (fun w h => by (have h3 := Take.sat (t1.c <| t0.c <| t1.c <| t1.c <| t1.c tn) h); rw [if_neg hc11] at hrec; rw [← hrec] at h3; exact h3)
          · refine XC.seq ?_
            refine XC.reg ?_
            refine XL.as rfl rfl ?_
            refine XL.nil ?_
            refine XQ.thenN ?_
            refine XC.seq ?_
            obtain ⟨hopen, hinv⟩ := step_open hz.2 (by omega)
            refine XC.opn t1 ?_
            rintro ⟨v9⟩
            dsimp only [List.cons_append, List.nil_append]
            refine XC.reg ?_
            refine XL.mv rfl rfl ?_
            refine XL.call hb_seglog_Open rfl rfl (openT_fn bd z.S.D (saveM z.S z.S.c.nb) (recL z.gs) hz.2.l.ok.good hz.2.l.ok.d (by rw [hz.2.l.q]; simp) hopen) (t1.c tn) ?_
            rintro _ _ ⟨b2, vo2, rfl, rfl⟩
            simp only [List.cons_append, List.nil_append]
            refine XL.mv rfl rfl ?_
            refine XL.ex rfl rfl rfl ?_
            refine XL.ex rfl rfl rfl ?_
            refine XL.ex rfl rfl rfl ?_
            refine XL.as rfl rfl ?_
            refine XL.as rfl rfl ?_
            refine XL.as rfl rfl ?_
            refine XL.nil ?_
            refine XQ.thenN ?_
            refine XC.seq ?_
            refine XC.opn t5 ?_
            rintro ⟨vi, vu⟩
            dsimp only [List.cons_append, List.nil_append]
            refine XC.reg ?_
            refine XL.mv rfl rfl ?_
            refine XL.ncP rfl rfl ?_
            refine XL.fa fo_coracleref05_Log_4 rfl rfl ?_
            refine XL.ld o_int rfl (by rfl) rfl ?_
            refine XL.bin rfl rfl rfl (bAdd (by have := hz.2.r.b; have := hz.2.l.ok.b; omega)) (XL.re 74 (u := .int .i64 ((z.W.boot + 1 : Nat) : Int)) rfl rfl ?_)
            refine XL.ncP rfl rfl ?_
            refine XL.fa fo_coracleref05_Log_4 rfl rfl ?_
            refine XL.st o_int rfl rfl rfl ?_
            refine XL.nil ?_
            refine XQ.thenN ?_
            refine XC.seq ?_
            refine XC.to (fun w h => (Sat.shut ⟨vi, vu⟩ (Take.sat (t0.c <| t0.c <| t0.c <| t0.c <| t0.c <| t3.c <| t3.c <| t3.c tn) h) : Sat [refC br { z.W with boot := z.W.boot + 1 }, (saveM z.S z.S.c.nb).C b2 bd, recS vo2 (recL z.gs), sl z.va encR (recL z.gs) T_coracleref05_Record 3, old w0, F] w)) ?_
            refine XC.reg ?_
            refine XL.mv rfl rfl ?_
            refine XL.bin rfl rfl rfl (bNeI) ?_
            refine XL.mv rfl rfl ?_
            refine XL.re 79 (u := .bool false) rfl (congrArg Value.bool (decide_eq_false (by omega))) ?_
            refine XL.mv rfl rfl ?_
            refine XL.mv rfl rfl ?_
            refine XL.call hb_coraclelaw05_records rfl rfl (coraclelaw05_records_fn vo2 z.va (recL z.gs) (by have := inv_len hz.2; omega)) (t2.c <| t2.c tn) ?_
            rintro _ _ ⟨rfl, rfl⟩
            simp only [List.cons_append, List.nil_append]
            refine XL.notT rfl rfl ?_
            refine XL.pkF rfl rfl rfl ?_
            refine XL.nil ?_
            refine XQ.thenN ?_
            refine XC.condF' rfl (rfl) ?_
            refine XC.skip ?_
            refine XQ.blkN ?_
            exact XQ.join ⟨z.i, saveM z.S z.S.c.nb, z.gs, { z.W with boot := z.W.boot + 1 }, z.va, b2⟩ ⟨rfl, hinv⟩ ⟨rfl, rfl, rfl, rfl, rfl, rfl, rfl, trivial⟩ (fun w h => Take.sat (t3.c <| t2.c <| t1.c <| t1.c <| t1.c tn) h)
    · refine XC.seq ?_
      refine XC.reg ?_
      refine XL.mv rfl rfl ?_
      refine XL.mv rfl rfl ?_
      refine XL.call hb_coraclelaw05_same rfl rfl (coraclelaw05_same_fn z2.b bd br z2.S z2.gs z2.W hz2.2.l hz2.2.d hz2.2.r) (t0.c <| t0.c tn) ?_
      rintro _ _ ⟨rfl, rfl⟩
      simp only [List.cons_append, List.nil_append]
      refine XL.notT rfl rfl ?_
      refine XL.nil ?_
      refine XQ.thenN ?_
      refine XC.condF' rfl (rfl) ?_
      refine XC.skip ?_
      refine XQ.blkN ?_
      refine XQ.thenN ?_
      refine XC.reg ?_
      refine XL.mv rfl rfl ?_
      refine XL.bin rfl rfl rfl (bAdd (by omega)) ?_
      refine XL.as rfl rfl ?_
      refine XL.nil ?_
      exact XQ.again ⟨z.i + 1, z2.S, z2.gs, z2.W, z2.va, z2.b⟩ ⟨by dsimp only; omega, hz2.2⟩ (by dsimp only; omega) ⟨rfl, rfl, rfl, rfl, rfl, rfl, rfl, trivial⟩ (fun w h => h)
  · refine XL.no rfl rfl ?_
    refine XL.no rfl rfl ?_
    refine XL.pkF rfl rfl rfl ?_
    refine XL.nil ?_
    refine XQ.thenN ?_
    refine XC.condF rfl ?_
    refine XC.exit ?_
    refine XQ.thenE ?_
    refine XQ.thenE ?_
    refine XQ.blkE ?_
    refine XQ.thenN ?_
    refine XC.seq ?_
    refine XC.reg ?_
    refine XL.mv rfl rfl ?_
    refine XL.bin rfl rfl rfl (bEqI) ?_
    refine XL.mv rfl rfl ?_
    refine XL.re 160 (u := .bool true) rfl (congrArg Value.bool (decide_eq_true (by omega))) ?_
    refine XL.mv rfl rfl ?_
    refine XL.mv rfl rfl ?_
    refine XL.call hb_coraclelaw05_same rfl rfl (coraclelaw05_same_fn z.b bd br z.S z.gs z.W hz.2.l hz.2.d hz.2.r) (t0.c <| t0.c tn) ?_
    rintro _ _ ⟨rfl, rfl⟩
    simp only [List.cons_append, List.nil_append]
    refine XL.pkT rfl rfl rfl ?_
    refine XL.as rfl rfl ?_
    refine XL.nil ?_
    refine XQ.thenN ?_
    refine XC.ret ?_
    exact XQ.ret (.inl rfl) rfl (rC (resT rfl) <| rN) [old w0] (⟨rfl, rfl⟩) (fun w h => Take.sat (t3.c <| t3.c tn) h)
end Go.Proofs.YthlfbndanknnmaaDoor
