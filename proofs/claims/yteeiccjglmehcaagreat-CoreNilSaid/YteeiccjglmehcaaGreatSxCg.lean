/-
  coraclelaw13: CoreNil. Printed by mk.py out of spec_coreg.py.
-/
import Derived.Test.YteeiccjglmehcaaGreatSxCf
namespace Go.Proofs.YteeiccjglmehcaaGreat
open Go Go.Sx

set_option synthInstance.maxSize 4000
set_option synthInstance.maxHeartbeats 200000
abbrev shSetN : Sh := .agg [.agg [.bool, .bool, .bool, .bool], .agg [.int .i64, .int .i64, .int .i64, .int .i64], .agg [.int .i64, .int .i64], .agg [.agg [.int .i64, .int .i64], .agg [.int .i64, .int .i64]]]
abbrev shWhoN : Sh := .agg [.int .i64, .int .i64, .sl (.int .i64) 8]
abbrev shActN : Sh := .agg [.int .i64, .int .i64, .int .i64, .int .i64, .int .i64, .str, .str, .str, shSetN, shWhoN, .int .i64, .bool]
theorem rdl_cons {w0 : World} {M : Nat} {s : Sh} {l : List Sh} {cs : List Value} {ds : List Dv} (h : RdL w0 M (s :: l) cs ds) : ∃ d ds' c1 c2, cs = c1 ++ c2 ∧ c1.length = s.size ∧ Rd w0 M s c1 d ∧ RdL w0 M l c2 ds' := by
  cases ds with
  | nil => exact absurd h (by simp [RdL])
  | cons d ds => obtain ⟨c1, c2, h1, h2, h3, h4⟩ := h; exact ⟨d, ds, c1, c2, h1, h2, h3, h4⟩
theorem rdl_nil {w0 : World} {M : Nat} {cs : List Value} {ds : List Dv} (h : RdL w0 M [] cs ds) : cs = [] := by
  cases ds with
  | nil => exact h
  | cons => exact absurd h (by simp [RdL])
theorem rd_int {w0 : World} {M : Nat} {k : IntKind} {cs : List Value} {d : Dv} (h : Rd w0 M (.int k) cs d) : ∃ n, cs = [.int k n] := by
  cases d <;> simp only [Rd] at h
  exact ⟨_, h.1⟩
theorem rd_str {w0 : World} {M : Nat} {cs : List Value} {d : Dv} (h : Rd w0 M .str cs d) : ∃ s, cs = [S s] := by
  cases d <;> simp only [Rd] at h
  exact ⟨_, h.1⟩
theorem rd_agg {w0 : World} {M : Nat} {l : List Sh} {cs : List Value} {d : Dv} (h : Rd w0 M (.agg l) cs d) : ∃ ds, RdL w0 M l cs ds := by
  cases d <;> simp only [Rd] at h
  exact ⟨_, h⟩
theorem rd_ints {w0 : World} {M : Nat} {cs : List Value} {d : Dv} (h : Rd w0 M (.sl (.int .i64) 8) cs d) : ∃ (v : Value) (gs : List Int), cs = [v] ∧ OneV v ∧ OldRow w0 v ((gs.map encN).flatten) ∧ gs.length * 8 ≤ M := by
  cases d with
  | sl ds =>
    unfold Rd at h
    rcases h with ⟨h1, _⟩ | ⟨p, cap, h1, h2, h3⟩
    · exact ⟨_, [], h1, ⟨rfl⟩, .inl ⟨rfl, none, 0, rfl⟩, Nat.zero_le _⟩
    · have hint : ∀ j (hj : j < ds.length), ∃ n, ∃ b o, p = ⟨b, o, none⟩ ∧ w0.cell? ⟨b, o + j, none⟩ = some (I n) := by
        intro j hj
        obtain ⟨b, o, e, cs', _, k2, k3⟩ := h3 j hj
        generalize ds[j] = d at k3
        obtain ⟨n, rfl⟩ := rd_int k3
        exact ⟨n, b, o, e, by have := k2 0 _ rfl; simpa [Sh.size] using this⟩
      have hflat : ∀ gs : List Int, (gs.map encN).flatten = gs.map I := fun gs => by
        induction gs with
        | nil => rfl
        | cons n gs ih => simp only [List.map_cons, List.flatten_cons, ih]; rfl
      rcases Nat.eq_zero_or_pos ds.length with h0 | h0
      · exact ⟨_, [], h1, ⟨rfl⟩, .inl ⟨rfl, some p, cap, by rw [h0]⟩, Nat.zero_le _⟩
      · obtain ⟨_, b, o, rfl, _⟩ := hint 0 h0
        refine ⟨_, (List.range ds.length).map fun j => if hj : j < ds.length then (hint j hj).choose else 0, h1, ⟨rfl⟩, .inr ⟨b, o, cap, ?_, ?_⟩, by simpa using h2⟩
        · rw [hflat]; simp
        · intro j u hj
          rw [hflat] at hj
          simp only [List.map_map, List.getElem?_map, Option.map_eq_some_iff] at hj
          obtain ⟨k, hk, rfl⟩ := hj
          have hjl : j < ds.length := by have := (List.getElem?_eq_some_iff.1 hk).1; simpa using this
          have hkj : k = j := by rw [List.getElem?_range hjl] at hk; exact (Option.some.inj hk).symm
          subst hkj
          obtain ⟨b', o', e, hc⟩ := (hint k hjl).choose_spec
          have e2 : b = b' ∧ o = o' := by simpa using e
          obtain ⟨rfl, rfl⟩ := e2
          simpa [hjl] using hc
  | _ => exact absurd h (by simp [Rd])
theorem len1 {l : List Value} (h : l.length = 1) : ∃ x, l = [x] := List.length_eq_one_iff.1 h
theorem len14 {l : List Value} (h : l.length = 14) : ∃ y0 y1 y2 y3 y4 y5 y6 y7 y8 y9 y10 y11 y12 y13, l = [y0, y1, y2, y3, y4, y5, y6, y7, y8, y9, y10, y11, y12, y13] := by
  match l, h with
  | [y0, y1, y2, y3, y4, y5, y6, y7, y8, y9, y10, y11, y12, y13], _ => exact ⟨y0, y1, y2, y3, y4, y5, y6, y7, y8, y9, y10, y11, y12, y13, rfl⟩
theorem act_read {w0 : World} {M : Nat} {cs : List Value} {l : List Dv} (h : Rd w0 M shActN cs (.agg l)) : ∃ (x0 x2 x3 x4 x6 x7 y0 y1 y2 y3 y4 y5 y6 y7 y8 y9 y10 y11 y12 y13 x26 : Value) (id : Int) (nm : List UInt8) (u g : Int) (vg : Value) (now : Int) (gs : List Int), cs = [x0, I id, x2, x3, x4, S nm, x6, x7, y0, y1, y2, y3, y4, y5, y6, y7, y8, y9, y10, y11, y12, y13, I u, I g, vg, I now, x26] ∧ OneV vg ∧ OldRow w0 vg ((gs.map encN).flatten) ∧ gs.length * 8 ≤ M := by
  rw [Rd] at h
  obtain ⟨_, _, c0, k0, rfl, l0, _, h⟩ := rdl_cons h
  obtain ⟨_, _, c1, k1, rfl, _, r1, h⟩ := rdl_cons h
  obtain ⟨_, _, c2, k2, rfl, l2, _, h⟩ := rdl_cons h
  obtain ⟨_, _, c3, k3, rfl, l3, _, h⟩ := rdl_cons h
  obtain ⟨_, _, c4, k4, rfl, l4, _, h⟩ := rdl_cons h
  obtain ⟨_, _, c5, k5, rfl, _, r5, h⟩ := rdl_cons h
  obtain ⟨_, _, c6, k6, rfl, l6, _, h⟩ := rdl_cons h
  obtain ⟨_, _, c7, k7, rfl, l7, _, h⟩ := rdl_cons h
  obtain ⟨_, _, c8, k8, rfl, l8, _, h⟩ := rdl_cons h
  obtain ⟨_, _, c9, k9, rfl, _, r9, h⟩ := rdl_cons h
  obtain ⟨_, _, c10, k10, rfl, _, r10, h⟩ := rdl_cons h
  obtain ⟨_, _, c11, k11, rfl, l11, _, h⟩ := rdl_cons h
  obtain rfl := rdl_nil h
  obtain ⟨_, h9⟩ := rd_agg r9
  obtain ⟨_, _, e0, f0, rfl, _, s0, h9⟩ := rdl_cons h9
  obtain ⟨_, _, e1, f1, rfl, _, s1, h9⟩ := rdl_cons h9
  obtain ⟨_, _, e2, f2, rfl, _, s2, h9⟩ := rdl_cons h9
  obtain rfl := rdl_nil h9
  obtain ⟨x0, rfl⟩ := len1 (by simpa [Sh.size] using l0)
  obtain ⟨x2, rfl⟩ := len1 (by simpa [Sh.size] using l2)
  obtain ⟨x3, rfl⟩ := len1 (by simpa [Sh.size] using l3)
  obtain ⟨x4, rfl⟩ := len1 (by simpa [Sh.size] using l4)
  obtain ⟨x6, rfl⟩ := len1 (by simpa [Sh.size] using l6)
  obtain ⟨x7, rfl⟩ := len1 (by simpa [Sh.size] using l7)
  obtain ⟨y0, y1, y2, y3, y4, y5, y6, y7, y8, y9, y10, y11, y12, y13, rfl⟩ := len14 (by simpa [Sh.size, Sh.sizes] using l8)
  obtain ⟨x26, rfl⟩ := len1 (by simpa [Sh.size] using l11)
  obtain ⟨id, rfl⟩ := rd_int r1
  obtain ⟨nm, rfl⟩ := rd_str r5
  obtain ⟨now, rfl⟩ := rd_int r10
  obtain ⟨u, rfl⟩ := rd_int s0
  obtain ⟨g, rfl⟩ := rd_int s1
  obtain ⟨vg, gs, rfl, hv, ho, hM⟩ := rd_ints s2
  exact ⟨x0, x2, x3, x4, x6, x7, y0, y1, y2, y3, y4, y5, y6, y7, y8, y9, y10, y11, y12, y13, x26, id, nm, u, g, vg, now, gs, rfl, hv, ho, hM⟩

theorem coraclelaw13_caller_fn (w0 : World) (x0 x2 x3 x4 x6 x7 y0 y1 y2 y3 y4 y5 y6 y7 y8 y9 y10 y11 y12 y13 x26 : Value) (id u g now : Int) (nm : List UInt8) (vg : Value) (hv : OneV vg) (gs : List Int) (ho : OldRow w0 vg ((gs.map encN).flatten)) (hM : gs.length * 8 ≤ 140737488351232) : Does P F_coraclelaw13_caller [.agg ([x0, I id, x2, x3, x4, S nm, x6, x7, y0, y1, y2, y3, y4, y5, y6, y7, y8, y9, y10, y11, y12, y13, I u, I g, vg, I now, x26] : List Value).toArray] [old w0] fun r cs => ∃ v, OneV v ∧ r = .tuple #[.agg (cv u g v now).toArray, .agg (cv u g vg now).toArray] ∧ cs = [old w0] := by
  refine Does.mk (N := 31) fn_coraclelaw13_caller rfl rfl rfl (fun F => ?_)
  simp only [List.cons_append, List.nil_append]
  refine XC.seq ?_
  refine XC.reg ?_
  refine XL.bx rfl rfl rfl (fun b1 => ?_)
  refine XL.al z_core_Caller rfl (fun b2 => ?_)
  refine XL.al z_coracleref13_Caller rfl (fun b3 => ?_)
  refine XL.nil ?_
  refine XQ.thenN ?_
  refine XC.seq ?_
  refine XC.drw (.q 0 <| .q 1 <| .q 2 <| .q 3 <| .q 4 <| .q 5 <| .q 7 <| .q 8 <| .q 9 <| .q 12 <| .q 13 <| .q 15 <| .q 16 <| .q 17 <| .q 18 <| .q 19 <| .q 20 <| .q 21 <| .q 22 <| .q 23 <| .q 24 <| .q 25 <| .q 26 <| .e 6 <| .r 0 <| .r 1 <| .r 2 <| .r 3 <| .r 4 <| .r 5 <| .r 7 <| .r 8 <| .r 9 <| .r 12 <| .r 13 <| .r 15 <| .r 16 <| .r 17 <| .r 18 <| .r 19 <| .r 20 <| .r 21 <| .r 22 <| .r 23 <| .r 24 <| .r 25 <| .r 26 <| .e 10 <| .r 0 <| .r 1 <| .r 2 <| .r 3 <| .r 4 <| .r 5 <| .r 12 <| .r 13 <| .r 15 <| .r 16 <| .r 17 <| .r 18 <| .r 19 <| .r 20 <| .r 21 <| .r 22 <| .r 23 <| .r 24 <| .r 25 <| .r 26 <| .q 11 <| .q 14 <| .e 27 <| .r 15 <| .r 16 <| .r 17 <| .r 18 <| .r 19 <| .r 20 <| .r 21 <| .r 22 <| .r 23 <| .r 24 <| .r 25 <| .r 26 <| .e 28 <| .done) mixed (by kernel_rfl) rfl ?_
  refine JP.qq rfl rfl rfl (XL.fa fo_coraclelaw13_Act_9 rfl rfl XL.qd) ?_
  refine JP.qq rfl rfl rfl (XL.fa fo_coraclelaw13_Who_0 rfl rfl XL.qd) ?_
  refine JP.qq rfl rfl rfl (XL.ld o_int rfl (by rfl) rfl XL.qd) ?_
  refine JP.qq rfl rfl rfl (XL.fa fo_coraclelaw13_Act_9 rfl rfl XL.qd) ?_
  refine JP.qq rfl rfl rfl (XL.fa fo_coraclelaw13_Who_1 rfl rfl XL.qd) ?_
  refine JP.qq rfl rfl rfl (XL.ld o_int rfl (by rfl) rfl XL.qd) ?_
  refine JP.qq rfl rfl rfl (XL.fa fo_coraclelaw13_Act_9 rfl rfl XL.qd) ?_
  refine JP.qq rfl rfl rfl (XL.fa fo_coraclelaw13_Who_2 rfl rfl XL.qd) ?_
  refine JP.qq rfl rfl rfl (XL.ld o_L_int rfl (by rfl) rfl XL.qd) ?_
  refine JP.qq rfl rfl rfl (XL.fa fo_coraclelaw13_Act_10 rfl rfl XL.qd) ?_
  refine JP.qq rfl rfl rfl (XL.ld o_int rfl (by rfl) rfl XL.qd) ?_
  refine JP.qq rfl rfl rfl (XL.fa fo_coraclelaw13_Act_9 rfl rfl XL.qd) ?_
  refine JP.qq rfl rfl rfl (XL.fa fo_coraclelaw13_Who_0 rfl rfl XL.qd) ?_
  refine JP.qq rfl rfl rfl (XL.ld o_int rfl (by rfl) rfl XL.qd) ?_
  refine JP.qq rfl rfl rfl (XL.fa fo_coraclelaw13_Act_9 rfl rfl XL.qd) ?_
  refine JP.qq rfl rfl rfl (XL.fa fo_coraclelaw13_Who_1 rfl rfl XL.qd) ?_
  refine JP.qq rfl rfl rfl (XL.ld o_int rfl (by rfl) rfl XL.qd) ?_
  refine JP.qq rfl rfl rfl (XL.fa fo_coraclelaw13_Act_9 rfl rfl XL.qd) ?_
  refine JP.qq rfl rfl rfl (XL.fa fo_coraclelaw13_Who_2 rfl rfl XL.qd) ?_
  refine JP.qq rfl rfl rfl (XL.ld o_L_int rfl (by rfl) rfl XL.qd) ?_
  refine JP.qq rfl rfl rfl (XL.fa fo_coraclelaw13_Act_10 rfl rfl XL.qd) ?_
  refine JP.qq rfl rfl rfl (XL.ld o_int rfl (by rfl) rfl XL.qd) ?_
  refine JP.qq rfl rfl rfl (XL.bd z_coracleref13_Caller p_coracleref13_Caller rfl rfl XL.qd) ?_
  refine JP.ee rfl ?_
  refine XL.bs (enc := encN) ([] : List Int) e_L_int z_int rfl rfl rfl (by intro x hx; cases hx) rfl (fun v10 _ => ?_)
  refine XL.ed ?_
  refine JP.rr rfl rfl rfl (XL.fa fo_coraclelaw13_Act_9 rfl rfl XL.qd) ?_
  refine JP.rr rfl rfl rfl (XL.fa fo_coraclelaw13_Who_0 rfl rfl XL.qd) ?_
  refine JP.rr rfl rfl rfl (XL.ld o_int rfl (by rfl) rfl XL.qd) ?_
  refine JP.rr rfl rfl rfl (XL.fa fo_coraclelaw13_Act_9 rfl rfl XL.qd) ?_
  refine JP.rr rfl rfl rfl (XL.fa fo_coraclelaw13_Who_1 rfl rfl XL.qd) ?_
  refine JP.rr rfl rfl rfl (XL.ld o_int rfl (by rfl) rfl XL.qd) ?_
  refine JP.rr rfl rfl rfl (XL.fa fo_coraclelaw13_Act_9 rfl rfl XL.qd) ?_
  refine JP.rr rfl rfl rfl (XL.fa fo_coraclelaw13_Who_2 rfl rfl XL.qd) ?_
  refine JP.rr rfl rfl rfl (XL.ld o_L_int rfl (by rfl) rfl XL.qd) ?_
  refine JP.rr rfl rfl rfl (XL.fa fo_coraclelaw13_Act_10 rfl rfl XL.qd) ?_
  refine JP.rr rfl rfl rfl (XL.ld o_int rfl (by rfl) rfl XL.qd) ?_
  refine JP.rr rfl rfl rfl (XL.fa fo_coraclelaw13_Act_9 rfl rfl XL.qd) ?_
  refine JP.rr rfl rfl rfl (XL.fa fo_coraclelaw13_Who_0 rfl rfl XL.qd) ?_
  refine JP.rr rfl rfl rfl (XL.ld o_int rfl (by rfl) rfl XL.qd) ?_
  refine JP.rr rfl rfl rfl (XL.fa fo_coraclelaw13_Act_9 rfl rfl XL.qd) ?_
  refine JP.rr rfl rfl rfl (XL.fa fo_coraclelaw13_Who_1 rfl rfl XL.qd) ?_
  refine JP.rr rfl rfl rfl (XL.ld o_int rfl (by rfl) rfl XL.qd) ?_
  refine JP.rr rfl rfl rfl (XL.fa fo_coraclelaw13_Act_9 rfl rfl XL.qd) ?_
  refine JP.rr rfl rfl rfl (XL.fa fo_coraclelaw13_Who_2 rfl rfl XL.qd) ?_
  refine JP.rr rfl rfl rfl (XL.ld o_L_int rfl (by rfl) rfl XL.qd) ?_
  refine JP.rr rfl rfl rfl (XL.fa fo_coraclelaw13_Act_10 rfl rfl XL.qd) ?_
  refine JP.rr rfl rfl rfl (XL.ld o_int rfl (by rfl) rfl XL.qd) ?_
  refine JP.rr rfl rfl rfl (XL.bd z_coracleref13_Caller p_coracleref13_Caller rfl rfl XL.qd) ?_
  refine JP.ee rfl ?_
  refine XL.appO gs e_L_int e_L_int z_int rfl rfl rfl ho (fun _ => rfl) (fun _ => rfl) (by simp only [List.length_nil]; omega) rfl (fun v14 _ => ?_)
  refine XL.ed ?_
  refine JP.rr rfl rfl rfl (XL.fa fo_coraclelaw13_Act_9 rfl rfl XL.qd) ?_
  refine JP.rr rfl rfl rfl (XL.fa fo_coraclelaw13_Who_0 rfl rfl XL.qd) ?_
  refine JP.rr rfl rfl rfl (XL.ld o_int rfl (by rfl) rfl XL.qd) ?_
  refine JP.rr rfl rfl rfl (XL.fa fo_coraclelaw13_Act_9 rfl rfl XL.qd) ?_
  refine JP.rr rfl rfl rfl (XL.fa fo_coraclelaw13_Who_1 rfl rfl XL.qd) ?_
  refine JP.rr rfl rfl rfl (XL.ld o_int rfl (by rfl) rfl XL.qd) ?_
  refine JP.rr rfl rfl rfl (XL.fa fo_coraclelaw13_Act_10 rfl rfl XL.qd) ?_
  refine JP.rr rfl rfl rfl (XL.ld o_int rfl (by rfl) rfl XL.qd) ?_
  refine JP.rr rfl rfl rfl (XL.fa fo_coraclelaw13_Act_9 rfl rfl XL.qd) ?_
  refine JP.rr rfl rfl rfl (XL.fa fo_coraclelaw13_Who_0 rfl rfl XL.qd) ?_
  refine JP.rr rfl rfl rfl (XL.ld o_int rfl (by rfl) rfl XL.qd) ?_
  refine JP.rr rfl rfl rfl (XL.fa fo_coraclelaw13_Act_9 rfl rfl XL.qd) ?_
  refine JP.rr rfl rfl rfl (XL.fa fo_coraclelaw13_Who_1 rfl rfl XL.qd) ?_
  refine JP.rr rfl rfl rfl (XL.ld o_int rfl (by rfl) rfl XL.qd) ?_
  refine JP.rr rfl rfl rfl (XL.fa fo_coraclelaw13_Act_9 rfl rfl XL.qd) ?_
  refine JP.rr rfl rfl rfl (XL.fa fo_coraclelaw13_Who_2 rfl rfl XL.qd) ?_
  refine JP.rr rfl rfl rfl (XL.ld o_L_int rfl (by rfl) rfl XL.qd) ?_
  refine JP.rr rfl rfl rfl (XL.fa fo_coraclelaw13_Act_10 rfl rfl XL.qd) ?_
  refine JP.rr rfl rfl rfl (XL.ld o_int rfl (by rfl) rfl XL.qd) ?_
  refine JP.rr rfl rfl rfl (XL.bd z_coracleref13_Caller p_coracleref13_Caller rfl rfl XL.qd) ?_
  refine JP.qq rfl rfl rfl (XL.bd z_api_Who p_api_Who rfl rfl XL.qd) ?_
  refine JP.qq rfl rfl rfl (XL.bd z_core_Caller p_core_Caller rfl rfl XL.qd) ?_
  refine JP.ee rfl ?_
  refine XL.stM g_core_Caller rfl rfl rfl (by rfl) rfl ?_
  refine XL.edn ?_
  refine JP.rr rfl rfl rfl (XL.fa fo_coraclelaw13_Act_9 rfl rfl XL.qd) ?_
  refine JP.rr rfl rfl rfl (XL.fa fo_coraclelaw13_Who_0 rfl rfl XL.qd) ?_
  refine JP.rr rfl rfl rfl (XL.ld o_int rfl (by rfl) rfl XL.qd) ?_
  refine JP.rr rfl rfl rfl (XL.fa fo_coraclelaw13_Act_9 rfl rfl XL.qd) ?_
  refine JP.rr rfl rfl rfl (XL.fa fo_coraclelaw13_Who_1 rfl rfl XL.qd) ?_
  refine JP.rr rfl rfl rfl (XL.ld o_int rfl (by rfl) rfl XL.qd) ?_
  refine JP.rr rfl rfl rfl (XL.fa fo_coraclelaw13_Act_9 rfl rfl XL.qd) ?_
  refine JP.rr rfl rfl rfl (XL.fa fo_coraclelaw13_Who_2 rfl rfl XL.qd) ?_
  refine JP.rr rfl rfl rfl (XL.ld o_L_int rfl (by rfl) rfl XL.qd) ?_
  refine JP.rr rfl rfl rfl (XL.fa fo_coraclelaw13_Act_10 rfl rfl XL.qd) ?_
  refine JP.rr rfl rfl rfl (XL.ld o_int rfl (by rfl) rfl XL.qd) ?_
  refine JP.rr rfl rfl rfl (XL.bd z_coracleref13_Caller p_coracleref13_Caller rfl rfl XL.qd) ?_
  refine JP.ee rfl ?_
  refine XL.stM g_coracleref13_Caller rfl rfl rfl (by rfl) rfl ?_
  refine XL.edn ?_
  refine JP.done ?_
  refine XQ.thenN ?_
  refine XC.ret ?_
  exact XQ.ret (.inl rfl) rfl (rC (resN g_core_Caller rfl rfl rfl) <| rC (resN g_coracleref13_Caller rfl rfl rfl) <| rN) [old w0] (⟨v14, ‹OneV v14›, rfl, rfl⟩) ((prm (by repeat constructor)))

theorem coraclelaw13_CoreNil_fn (w0 : World) (x0 x2 x3 x4 x6 x7 y0 y1 y2 y3 y4 y5 y6 y7 y8 y9 y10 y11 y12 y13 x26 : Value) (id u g now : Int) (nm : List UInt8) (vg : Value) (hv : OneV vg) (gs : List Int) (ho : OldRow w0 vg ((gs.map encN).flatten)) (hM : gs.length * 8 ≤ 140737488351232) : Does P F_coraclelaw13_CoreNil [.agg ([x0, I id, x2, x3, x4, S nm, x6, x7, y0, y1, y2, y3, y4, y5, y6, y7, y8, y9, y10, y11, y12, y13, I u, I g, vg, I now, x26] : List Value).toArray] [old w0] fun r cs => r = B true ∧ cs = [old w0] := by
  refine Does.mk (N := 116) fn_coraclelaw13_CoreNil rfl rfl rfl (fun F => ?_)
  simp only [List.cons_append, List.nil_append]
  refine XC.seq ?_
  refine XC.reg ?_
  refine XL.bx rfl rfl rfl (fun b1 => ?_)
  refine XL.as rfl rfl ?_
  refine XL.nil ?_
  refine XQ.thenN ?_
  refine XC.seq ?_
  refine XC.seq ?_
  refine XC.reg ?_
  refine XL.call hb_coraclelaw13_speaks rfl rfl (coraclelaw13_speaks_fn) (tn) ?_
  rintro _ _ ⟨rfl, rfl⟩
  simp only [List.cons_append, List.nil_append]
  refine XL.notT rfl rfl ?_
  refine XL.nil ?_
  refine XQ.thenN ?_
  refine XC.condF' rfl (rfl) ?_
  refine XC.skip ?_
  refine XQ.thenN ?_
  refine XC.seq ?_
  refine XC.reg ?_
  refine XL.as rfl rfl ?_
  refine XL.nil ?_
  refine XQ.thenN ?_
  refine XC.seq ?_
  refine XC.reg ?_
  refine XL.ldM g_coraclelaw13_Act rfl (by rfl) rfl ?_
  refine XL.call hb_coraclelaw13_caller rfl rfl (coraclelaw13_caller_fn w0 x0 x2 x3 x4 x6 x7 y0 y1 y2 y3 y4 y5 y6 y7 y8 y9 y10 y11 y12 y13 x26 id u g now nm vg hv gs ho hM) (Tk.take (by repeat constructor)) ?_
  rintro _ _ ⟨v, hvv, rfl, rfl⟩
  simp only [List.cons_append, List.nil_append]
  refine XL.mv rfl rfl ?_
  refine XL.ex rfl rfl rfl ?_
  refine XL.ex rfl rfl rfl ?_
  refine XL.al z_core_Caller rfl (fun b4 => ?_)
  refine XL.al z_coracleref13_Caller rfl (fun b5 => ?_)
  refine XL.stM g_core_Caller rfl rfl rfl (by rfl) rfl ?_
  refine XL.stM g_coracleref13_Caller rfl rfl rfl (by rfl) rfl ?_
  refine XL.nil ?_
  refine XQ.thenN ?_
  refine XC.seq ?_
  refine XC.reg ?_
  refine XL.mv rfl rfl ?_
  refine XL.bd z_core_Node p_core_Node rfl rfl ?_
  refine XL.call hb_core_FS_Load rfl rfl (core_FS_Load_nil_fn) (tn) ?_
  rintro _ _ ⟨rfl, rfl⟩
  simp only [List.cons_append, List.nil_append]
  refine XL.nil ?_
  refine XQ.thenN ?_
  refine XC.seq ?_
  refine XC.reg ?_
  refine XL.mv rfl rfl ?_
  refine XL.fa fo_coraclelaw13_Act_1 rfl rfl ?_
  refine XL.ld o_int rfl (by rfl) rfl ?_
  refine XL.call hb_core_FS_Node rfl rfl (core_FS_Node_nil_fn id) (tn) ?_
  rintro _ _ ⟨rfl, rfl⟩
  simp only [List.cons_append, List.nil_append]
  refine XL.mv rfl rfl ?_
  refine XL.ex rfl rfl rfl ?_
  refine XL.ex rfl rfl rfl ?_
  refine XL.al z_core_Node rfl (fun b6 => ?_)
  refine XL.stM g_core_Node rfl rfl rfl (by rfl) rfl ?_
  refine XL.as rfl rfl ?_
  refine XL.nil ?_
  refine XQ.thenN ?_
  refine XC.seq ?_
  refine XC.reg ?_
  refine XL.mv rfl rfl ?_
  refine XL.ldM g_core_Caller rfl (by rfl) rfl ?_
  refine XL.fa fo_coraclelaw13_Act_1 rfl rfl ?_
  refine XL.ld o_int rfl (by rfl) rfl ?_
  refine XL.fa fo_coraclelaw13_Act_5 rfl rfl ?_
  refine XL.ld o_string rfl (by rfl) rfl ?_
  refine XL.call hb_core_FS_Lookup rfl rfl (core_FS_Lookup_nil_fn u g v hvv now id nm) (tn) ?_
  rintro _ _ ⟨rfl, rfl⟩
  simp only [List.cons_append, List.nil_append]
  refine XL.mv rfl rfl ?_
  refine XL.ex rfl rfl rfl ?_
  refine XL.ex rfl rfl rfl ?_
  refine XL.as rfl rfl ?_
  refine XL.as rfl rfl ?_
  refine XL.nil ?_
  refine XQ.thenN ?_
  refine XC.seq ?_
  refine XC.reg ?_
  refine XL.mv rfl rfl ?_
  refine XL.ldM g_core_Caller rfl (by rfl) rfl ?_
  refine XL.fa fo_coraclelaw13_Act_1 rfl rfl ?_
  refine XL.ld o_int rfl (by rfl) rfl ?_
  refine XL.fa fo_coraclelaw13_Act_5 rfl rfl ?_
  refine XL.ld o_string rfl (by rfl) rfl ?_
  refine XL.bd z_attr_Set p_attr_Set rfl rfl ?_
  refine XL.call hb_core_FS_Create rfl rfl (core_FS_Create_nil_fn u g v hvv now id nm) (tn) ?_
  rintro _ _ ⟨rfl, rfl⟩
  simp only [List.cons_append, List.nil_append]
  refine XL.mv rfl rfl ?_
  refine XL.ex rfl rfl rfl ?_
  refine XL.ex rfl rfl rfl ?_
  refine XL.as rfl rfl ?_
  refine XL.as rfl rfl ?_
  refine XL.nil ?_
  refine XQ.thenN ?_
  refine XC.seq ?_
  refine XC.reg ?_
  refine XL.mv rfl rfl ?_
  refine XL.ldM g_core_Caller rfl (by rfl) rfl ?_
  refine XL.fa fo_coraclelaw13_Act_1 rfl rfl ?_
  refine XL.ld o_int rfl (by rfl) rfl ?_
  refine XL.call hb_core_FS_Readdir rfl rfl (core_FS_Readdir_nil_fn u g v hvv now id) (tn) ?_
  rintro _ _ ⟨rfl, rfl⟩
  simp only [List.cons_append, List.nil_append]
  refine XL.mv rfl rfl ?_
  refine XL.ex rfl rfl rfl ?_
  refine XL.ex rfl rfl rfl ?_
  refine XL.ex rfl rfl rfl ?_
  refine XL.as rfl rfl ?_
  refine XL.as rfl rfl ?_
  refine XL.as rfl rfl ?_
  refine XL.nil ?_
  refine XQ.thenN ?_
  refine XC.seq ?_
  refine XC.reg ?_
  refine XL.mv rfl rfl ?_
  refine XL.notT rfl rfl ?_
  refine XL.mv rfl rfl ?_
  refine XL.re 64 (u := .bool true) rfl (rfl) ?_
  refine XL.mv rfl rfl ?_
  refine XL.bin rfl rfl rfl (bEqI) ?_
  refine XL.pkT rfl rfl rfl ?_
  refine XL.mv rfl rfl ?_
  refine XL.re 68 (u := .bool true) rfl (rfl) ?_
  refine XL.mv rfl rfl ?_
  refine XL.bin rfl rfl rfl (bEqI) ?_
  refine XL.pkT rfl rfl rfl ?_
  refine XL.mv rfl rfl ?_
  refine XL.re 72 (u := .bool true) rfl (rfl) ?_
  refine XL.mv rfl rfl ?_
  refine XL.bin rfl rfl rfl (bEqI) ?_
  refine XL.pkT rfl rfl rfl ?_
  refine XL.mv rfl rfl ?_
  refine XL.re 76 (u := .bool true) rfl (rfl) ?_
  refine XL.mv rfl rfl ?_
  refine XL.ldM g_core_Caller rfl (by rfl) rfl ?_
  refine XL.fa fo_coraclelaw13_Act_1 rfl rfl ?_
  refine XL.ld o_int rfl (by rfl) rfl ?_
  refine XL.fa fo_coraclelaw13_Act_5 rfl rfl ?_
  refine XL.ld o_string rfl (by rfl) rfl ?_
  refine XL.call hb_core_FS_Remove rfl rfl (core_FS_Remove_nil_fn u g v hvv now id nm) (tn) ?_
  rintro _ _ ⟨rfl, rfl⟩
  simp only [List.cons_append, List.nil_append]
  refine XL.bin rfl rfl rfl (bEqI) ?_
  refine XL.pkT rfl rfl rfl ?_
  refine XL.mv rfl rfl ?_
  refine XL.re 86 (u := .bool true) rfl (rfl) ?_
  refine XL.mv rfl rfl ?_
  refine XL.ldM g_core_Caller rfl (by rfl) rfl ?_
  refine XL.fa fo_coraclelaw13_Act_1 rfl rfl ?_
  refine XL.ld o_int rfl (by rfl) rfl ?_
  refine XL.call hb_core_FS_Write rfl rfl (core_FS_Write_nil_fn u g v hvv now id [120]) (tn) ?_
  rintro _ _ ⟨rfl, rfl⟩
  simp only [List.cons_append, List.nil_append]
  refine XL.bin rfl rfl rfl (bEqI) ?_
  refine XL.pkT rfl rfl rfl ?_
  refine XL.mv rfl rfl ?_
  refine XL.re 94 (u := .bool true) rfl (rfl) ?_
  refine XL.mv rfl rfl ?_
  refine XL.call hb_core_FS_Clone rfl rfl (core_FS_Clone_nil_fn) (tn) ?_
  rintro _ _ ⟨rfl, rfl⟩
  simp only [List.cons_append, List.nil_append]
  refine XL.bin rfl rfl rfl (bEqPT u_P_core_FS) ?_
  refine XL.pkT rfl rfl rfl ?_
  refine XL.mv rfl rfl ?_
  refine XL.re 99 (u := .bool true) rfl (rfl) ?_
  refine XL.mv rfl rfl ?_
  refine XL.call hb_core_FS_IDs rfl rfl (core_FS_IDs_nil_fn) (tn) ?_
  rintro _ _ ⟨rfl, rfl⟩
  simp only [List.cons_append, List.nil_append]
  refine XL.lenW e_L_int rfl rfl ?_
  refine XL.bin rfl rfl rfl (bEqI) ?_
  refine XL.pkT rfl rfl rfl ?_
  refine XL.mv rfl rfl ?_
  refine XL.re 105 (u := .bool true) rfl (rfl) ?_
  refine XL.mv rfl rfl ?_
  refine XL.call hb_core_FS_Met rfl rfl (core_FS_Met_nil_fn) (tn) ?_
  rintro _ _ ⟨rfl, rfl⟩
  simp only [List.cons_append, List.nil_append]
  refine XL.lenW e_L_core_Met rfl rfl ?_
  refine XL.bin rfl rfl rfl (bEqI) ?_
  refine XL.pkT rfl rfl rfl ?_
  refine XL.mv rfl rfl ?_
  refine XL.re 111 (u := .bool true) rfl (rfl) ?_
  refine XL.mv rfl rfl ?_
  refine XL.call hb_core_FS_Last rfl rfl (core_FS_Last_nil_fn 5) (tn) ?_
  rintro _ _ ⟨rfl, rfl⟩
  simp only [List.cons_append, List.nil_append]
  refine XL.bin rfl rfl rfl (bEqI) ?_
  refine XL.pkT rfl rfl rfl ?_
  refine XL.as rfl rfl ?_
  refine XL.nil ?_
  refine XQ.thenN ?_
  refine XC.ret ?_
  exact XQ.ret (.inl rfl) rfl (rC (resT rfl) <| rN) [old w0] (⟨rfl, rfl⟩) ((prm (by repeat constructor)))

theorem coraclelaw13_CoreNil_row (w0 : World) (v : Value) (a : Array Value) (hv : v = .agg a) (l : List Dv) (hr : Rd w0 140737488351232 shActN a.toList (.agg l)) : Does P F_coraclelaw13_CoreNil [v] [old w0] fun r cs => r = B true ∧ cs = [old w0] := by
  subst hv
  obtain ⟨x0, x2, x3, x4, x6, x7, y0, y1, y2, y3, y4, y5, y6, y7, y8, y9, y10, y11, y12, y13, x26, id, nm, u, g, vg, now, gs, hcs, hv, ho, hM⟩ := act_read hr
  have ha : a = ([x0, I id, x2, x3, x4, S nm, x6, x7, y0, y1, y2, y3, y4, y5, y6, y7, y8, y9, y10, y11, y12, y13, I u, I g, vg, I now, x26] : List Value).toArray := Array.ext' (by simpa using hcs)
  subst ha
  exact coraclelaw13_CoreNil_fn w0 x0 x2 x3 x4 x6 x7 y0 y1 y2 y3 y4 y5 y6 y7 y8 y9 y10 y11 y12 y13 x26 id u g now nm vg hv gs ho hM
end Go.Proofs.YteeiccjglmehcaaGreat
