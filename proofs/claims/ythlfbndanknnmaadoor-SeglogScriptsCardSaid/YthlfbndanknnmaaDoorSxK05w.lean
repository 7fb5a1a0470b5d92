/-
  A log is the document's: what the statement asks of both. Printed by mk.py out of spec_k05w.py.
-/
import Derived.Test.YthlfbndanknnmaaDoorSxK05v
namespace Go.Proofs.YthlfbndanknnmaaDoor
open Go Go.Sx

/-- The log and the document's. -/
structure RelW (S : LogS) (gs : List Gr) (W : RefL) : Prop where
  s : W.segs = segsN S.D.now.length
  i : W.ids = gs.map (·.1)
  u : W.used = gs.map fun g => sz g.2
  q : W.seq = S.c.seq
  b : W.boot = S.c.boot
theorem RelW.len {S : LogS} {gs : List Gr} {W : RefL} (h : RelW S gs W) (hd : DiskIn S gs) : S.c.segs.length = W.ids.length ∧ W.used.length = W.ids.length ∧ W.ids.length = gs.length := by
  rw [hd.segs, h.i, h.u]; simp [segsOf]
theorem RelW.at {S : LogS} {gs : List Gr} {W : RefL} (h : RelW S gs W) (hd : DiskIn S gs) {i : Nat} (h1 : i < S.c.segs.length) (h2 : i < W.ids.length) (h3 : i < W.used.length) : (S.c.segs[i]).1 = W.ids[i] ∧ (S.c.segs[i]).2 = W.used[i] := by
  have e1 : (segsOf gs)[i]? = some S.c.segs[i] := by rw [← hd.segs]; exact List.getElem?_eq_getElem h1
  have e2 : (gs.map (·.1))[i]? = some W.ids[i] := by rw [← h.i]; exact List.getElem?_eq_getElem h2
  have e3 : (gs.map fun g => sz g.2)[i]? = some W.used[i] := by rw [← h.u]; exact List.getElem?_eq_getElem h3
  rw [segsOf, List.getElem?_map] at e1
  rw [List.getElem?_map] at e2
  rw [List.getElem?_map] at e3
  cases hg : gs[i]? with
  | none => rw [hg] at e1; cases e1
  | some g =>
    rw [hg] at e1 e2 e3
    simp only [Option.map_some, Option.some.injEq] at e1 e2 e3
    rw [← e1, ← e2, ← e3]; exact ⟨rfl, rfl⟩
theorem isUsed_free {c : Ck} {n : Nat} : isUsed (ids c.segs) n = !freeAt c n := by
  unfold isUsed freeAt ids
  rw [Bool.not_not, List.any_map]; rfl
theorem leastI_eq {c : Ck} : ∀ k, (leastF c k = none → leastI (ids c.segs) k = -1) ∧ (∀ i, leastF c k = some i → leastI (ids c.segs) k = (i : Int))
  | 0 => ⟨fun _ => rfl, fun i h => by cases h⟩
  | k + 1 => by
    obtain ⟨h1, h2⟩ := leastI_eq (c := c) k
    rw [leastF, leastI, isUsed_free]
    cases hl : leastF c k with
    | some i =>
      have := h2 i hl
      dsimp only
      refine ⟨(fun h => by cases h), fun j hj => ?_⟩
      cases hj
      split
      · exact this
      · rw [if_neg (by omega)]; exact this
    | none =>
      have := h1 hl
      dsimp only
      cases hf : freeAt c k with
      | false => simp [this]
      | true => simp [this]
theorem freeN_eq (l : List Nat) (hd : l.Nodup) : ∀ n, freeN l n + (l.filter fun x => decide (x < n)).length = n
  | 0 => by simp [freeN]
  | n + 1 => by
    have ih := freeN_eq l hd n
    have key : (l.filter fun x => decide (x < n + 1)).length = (l.filter fun x => decide (x < n)).length + if n ∈ l then 1 else 0 := by
      clear ih
      induction l with
      | nil => simp
      | cons x l ihl =>
        have hdx := List.nodup_cons.1 hd
        have := ihl hdx.2
        simp only [List.filter_cons, List.mem_cons]
        by_cases hx : x = n
        · subst hx
          rw [if_pos (by simp), if_neg (by simp), if_pos (.inl rfl), List.length_cons, this, if_neg hdx.1]
        · by_cases hlt : x < n
          · rw [if_pos (by simp; omega), if_pos (by simp; omega), List.length_cons, List.length_cons, this]
            by_cases hm : n ∈ l
            · rw [if_pos hm, if_pos (.inr hm)]
            · rw [if_neg hm, if_neg (by rintro (h | h); exact hx h.symm; exact hm h)]
          · rw [if_neg (by simp; omega), if_neg (by simp; omega), this]
            by_cases hm : n ∈ l
            · rw [if_pos hm, if_pos (.inr hm)]
            · rw [if_neg hm, if_neg (by rintro (h | h); exact hx h.symm; exact hm h)]
    have hu : isUsed l n = decide (n ∈ l) := by
      rw [Bool.eq_iff_iff]
      simp only [isUsed, List.any_eq_true, decide_eq_true_eq]
      constructor
      · rintro ⟨x, hx, e⟩; rw [show n = x by omega]; exact hx
      · intro h; exact ⟨n, h, rfl⟩
    rw [freeN, hu, key]
    by_cases hm : n ∈ l
    · rw [if_pos hm, decide_eq_true hm, if_pos rfl]; omega
    · rw [if_neg hm, decide_eq_false hm, if_neg (by simp)]; omega
theorem RelW.ids {S : LogS} {gs : List Gr} {W : RefL} (h : RelW S gs W) (hd : DiskIn S gs) : W.ids = ids S.c.segs := by
  rw [h.i, hd.segs]; simp [Go.Proofs.YthlfbndanknnmaaDoor.ids, segsOf]
theorem RelW.free {S : LogS} {gs : List Gr} {W : RefL} (h : RelW S gs W) (hd : DiskIn S gs) (hS : LogIn S) : freeN W.ids W.segs = segsN S.D.now.length - S.c.segs.length := by
  have h1 := freeN_eq W.ids (by rw [h.ids hd]; exact hS.nd) W.segs
  have h2 : (W.ids.filter fun x => decide (x < W.segs)) = W.ids := by
    rw [List.filter_eq_self]
    intro x hx
    rw [h.ids hd] at hx
    obtain ⟨y, hy, rfl⟩ := List.mem_map.1 hx
    rw [h.s]; simp [hS.lt y hy]
  rw [h2, h.s] at h1
  have := h.len hd
  rw [h.s]; omega
theorem RelW.ok {S : LogS} {gs : List Gr} {W : RefL} (h : RelW S gs W) (hd : DiskIn S gs) (hS : LogIn S) : RefOk W := by
  have hl := h.len hd
  refine ⟨by rw [h.s]; exact segsN_le _, hl.2.1.symm, by have := hS.ok.n0; omega, by have := hS.ok.n64; omega, fun x hx => ?_, by rw [h.q]; exact hS.ok.q, by rw [h.b]; exact hS.ok.b, fun x hx => ?_⟩
  · rw [h.u] at hx
    obtain ⟨g, hg, rfl⟩ := List.mem_map.1 hx
    exact (hd.at' g hg).2
  · rw [h.ids hd] at hx
    obtain ⟨y, hy, rfl⟩ := List.mem_map.1 hx
    have := hS.lt y hy
    have := segsN_le S.D.now.length
    omega
theorem RelW.lst {S : LogS} {gs : List Gr} {W : RefL} (h : RelW S gs W) (hd : DiskIn S gs) (hS : LogIn S) : W.ids.getD (W.ids.length - 1) 0 = S.c.lst.1 ∧ W.used.getD (W.ids.length - 1) 0 = S.c.lst.2 := by
  have hl := h.len hd
  have h0 := hS.ok.n0
  have := h.at hd (i := W.ids.length - 1) (by omega) (by omega) (by omega)
  rw [getD_at (by omega), getD_at (by omega), ← this.1, ← this.2]
  have e := hS.ok.l
  have hi : W.ids.length - 1 = S.c.segs.length - 1 := by omega
  simp only [hi]
  rw [← e]; exact ⟨rfl, rfl⟩
theorem fits0 {c : Ck} (h : c.lst.2 ≤ 16) : fitsM c 0 = decide (1 ≤ 16 - (c.lst.2 : Int)) := by
  rw [Bool.eq_iff_iff]; unfold fitsM partsZ; simp only [Bool.and_eq_true, decide_eq_true_eq]; omega
theorem fitsL {c : Ck} (h : c.lst.2 ≤ 16) : fitsM c (233 * (16 - (c.lst.2 : Int))) = decide (1 ≤ 16 - (c.lst.2 : Int)) := by
  rw [Bool.eq_iff_iff]; unfold fitsM partsZ; simp only [Bool.and_eq_true, decide_eq_true_eq]; omega
theorem fitsL1 {c : Ck} (h : c.lst.2 ≤ 16) : fitsM c (233 * (16 - (c.lst.2 : Int)) + 1) = false := by
  rw [Bool.eq_false_iff]; unfold fitsM partsZ; simp only [Ne, Bool.and_eq_true, decide_eq_true_eq]; omega
theorem fitsN {c : Ck} : fitsM c (-1) = false := by simp [fitsM]

theorem coraclelaw05_same_fn (b bd br : Nat) (T : LogS) (gs : List Gr) (W : RefL) (hS : LogIn T) (hd : DiskIn T gs) (hr : RelW T gs W) : Does P F_coraclelaw05_same [.pointer (some ⟨b, 0, none⟩), .pointer (some ⟨br, 0, none⟩)] [T.C b bd, refC br W] fun v cs => v = .bool true ∧ cs = [T.C b bd, refC br W] := by
  refine Does.mk (N := 114) fn_coraclelaw05_same rfl rfl rfl (fun F => ?_)
  simp only [List.cons_append, List.nil_append]
  have hW := hr.ok hd hS
  obtain ⟨hl1, hl2, _⟩ := hr.len hd
  have hn0 := hW.n0
  have hn64 := hW.n64
  have hfr := hr.free hd hS
  have hlst := hr.lst hd hS
  have hj : W.ids.length - 1 < W.used.length := by omega
  have hu16 := hS.ok.lx.2
  have hgl := getD_at hj
  have hsn := segsN_le T.D.now.length
  have hmost := hS.most
  refine XC.seq ?_
  refine XC.reg ?_
  refine XL.as rfl rfl ?_
  refine XL.nil ?_
  refine XQ.thenN ?_
  refine XC.seq ?_
  refine XC.reg ?_
  refine XL.mv rfl rfl ?_
  refine XL.call hb_seglog_Log_Segments rfl rfl (seglog_Log_Segments_fn b bd T.pl T.c T.D hS.ok) (t0.c tn) ?_
  rintro us _ rfl
  simp only [List.cons_append, List.nil_append]
  refine XL.oneV us (fun _ => ?_)
  refine XL.as rfl rfl ?_
  refine XL.nil ?_
  refine XQ.thenN ?_
  refine XC.seq ?_
  refine XC.reg ?_
  refine XL.mv rfl rfl ?_
  refine XL.call hb_coracleref05_Free rfl rfl (coracleref05_Free_fn br W (by have := hW.s; omega) (by omega)) (t2.c tn) ?_
  rintro _ _ ⟨rfl, rfl⟩
  simp only [List.cons_append, List.nil_append]
  refine XL.mv rfl rfl ?_
  refine XL.ex rfl rfl rfl ?_
  refine XL.ex rfl rfl rfl ?_
  refine XL.as rfl rfl ?_
  refine XL.as rfl rfl ?_
  refine XL.nil ?_
  refine XQ.thenN ?_
  refine XC.seq ?_
  refine XC.seq ?_
  refine XC.perm (t1.c <| t0.c tall) ?_
  refine XC.opn t1 ?_
  rintro ⟨vi, vu⟩
  dsimp only [List.cons_append, List.nil_append]
  refine XC.oneV vi (fun _ => ?_)
  refine XC.oneV vu (fun _ => ?_)
  refine XC.perm (t3.c <| t0.c tall) ?_
  refine XC.drw (.q 0 <| .q 1 <| .q 2 <| .q 3 <| .q 4 <| .q 5 <| .q 6 <| .q 7 <| .q 8 <| .q 9 <| .q 10 <| .q 11 <| .q 12 <| .q 13 <| .q 14 <| .q 15 <| .q 16 <| .q 17 <| .q 18 <| .q 19 <| .q 20 <| .q 21 <| .q 22 <| .done) mixed (by kernel_rfl) rfl ?_
  refine JP.qq rfl rfl rfl (XL.mv rfl rfl XL.qd) ?_
  refine JP.qq rfl rfl rfl (XL.lenS e_L_seglog_Segment rfl rfl XL.qd) ?_
  refine JP.qq rfl rfl rfl (XL.mv rfl rfl XL.qd) ?_
  refine JP.qq rfl rfl rfl (XL.ncP rfl rfl XL.qd) ?_
  refine JP.qq rfl rfl rfl (XL.fa fo_coracleref05_Log_1 rfl rfl XL.qd) ?_
  refine JP.qq rfl rfl rfl (XL.ld o_L_int rfl (by rfl) rfl XL.qd) ?_
  refine JP.qq rfl rfl rfl (XL.lenS e_L_int rfl rfl XL.qd) ?_
  refine JP.qq rfl rfl rfl (XL.bin rfl rfl rfl (bNeI) XL.qd) ?_
  refine JP.qq rfl rfl rfl (XL.mv rfl rfl XL.qd) ?_
  refine JP.re 25 (u := .bool false) rfl (congrArg Value.bool (decide_eq_false (by omega))) ?_
  refine JP.qq rfl rfl rfl (XL.mv rfl rfl XL.qd) ?_
  refine JP.qq rfl rfl rfl (XL.call hb_seglog_Log_Free rfl rfl (seglog_Log_Free_fn b bd T.pl T.c T.D hS.ok hS.most) (t0.c tn) (by rintro _ _ ⟨rfl, rfl⟩; exact XL.qdp (fun w h => h))) ?_
  refine JP.qq rfl rfl rfl (XL.mv rfl rfl XL.qd) ?_
  refine JP.qq rfl rfl rfl (XL.bin rfl rfl rfl (bNeI) XL.qd) ?_
  refine JP.qq rfl rfl rfl (XL.pkF rfl rfl rfl XL.qd) ?_
  refine JP.qq rfl rfl rfl (XL.mv rfl rfl XL.qd) ?_
  refine JP.re 31 (u := .bool false) rfl (congrArg Value.bool (decide_eq_false (by rw [hfr]; omega))) ?_
  refine JP.qq rfl rfl rfl (XL.mv rfl rfl XL.qd) ?_
  refine JP.qq rfl rfl rfl (XL.call hb_seglog_Log_Boot rfl rfl (seglog_Log_Boot_fn b bd T.pl T.c T.D) (t0.c tn) (by rintro _ _ ⟨rfl, rfl⟩; exact XL.qdp (fun w h => h))) ?_
  refine JP.qq rfl rfl rfl (XL.mv rfl rfl XL.qd) ?_
  refine JP.qq rfl rfl rfl (XL.ncP rfl rfl XL.qd) ?_
  refine JP.qq rfl rfl rfl (XL.fa fo_coracleref05_Log_4 rfl rfl XL.qd) ?_
  refine JP.qq rfl rfl rfl (XL.ld o_int rfl (by rfl) rfl XL.qd) ?_
  refine JP.qq rfl rfl rfl (XL.bin rfl rfl rfl (bNeI) XL.qd) ?_
  refine JP.qq rfl rfl rfl (XL.pkF rfl rfl rfl XL.qd) ?_
  refine JP.done ?_
  refine XQ.thenN ?_
  refine XC.condF' rfl (decide_eq_false (by rw [hr.b]; omega)) ?_
  refine XC.skip ?_
  refine XQ.thenN ?_
  refine XC.seq ?_
  refine XC.seq ?_
  refine XC.reg ?_
  refine XL.as rfl rfl ?_
  refine XL.nil ?_
  refine XQ.thenN ?_
  refine XC.block ?_
  refine XC.loop (ι := Nat) (fun i => [(0, .pointer (some ⟨b, 0, none⟩)), (1, .pointer (some ⟨br, 0, none⟩)), (5, us), (8, .int .i64 (i : Int))]) (fun i => [T.C b bd, blk br [.int .i64 (W.segs : Int), vi, vu, .int .i64 (W.seq : Int), .int .i64 (W.boot : Int), .int .i64 (W.serial : Int)] T_coracleref05_Log, sl vi encN W.ids T_int 1, sl vu encN W.used T_int 1, segS us T.c.segs, F]) (fun i => i ≤ T.c.segs.length) (fun i => T.c.segs.length - i) 0 (Nat.zero_le _) ⟨rfl, rfl, rfl, rfl, trivial⟩ (fun w h => h) (fun i hi => ?_)
  refine XC.seq ?_
  refine XC.seq ?_
  refine XC.reg ?_
  refine XL.mv rfl rfl ?_
  refine XL.mv rfl rfl ?_
  refine XL.lenS e_L_seglog_Segment rfl rfl ?_
  refine XL.bin rfl rfl rfl (bLss) ?_
  refine XL.nil ?_
  refine XQ.thenN ?_
  refine XC.cond rfl (fun hc1 => ?_) (fun hc1 => ?_)
  · have hlt : i < T.c.segs.length := by omega
    have hlti : i < W.ids.length := by omega
    have hltu : i < W.used.length := by omega
    have hx := hr.at hd hlt hlti hltu
    refine XC.isAt us i hlt (fun bu _ => ?_)
    refine XC.isAt vi i hlti (fun bi _ => ?_)
    refine XC.isAt vu i hltu (fun bv _ => ?_)
    refine XC.skip ?_
    refine XQ.thenN ?_
    refine XC.seq ?_
    refine XC.block ?_
    refine XC.seq ?_
    refine XC.drw (.q 0 <| .q 1 <| .q 2 <| .q 3 <| .q 4 <| .q 5 <| .q 6 <| .q 7 <| .q 8 <| .q 9 <| .q 10 <| .q 11 <| .q 12 <| .q 13 <| .q 14 <| .q 15 <| .q 16 <| .q 17 <| .q 18 <| .q 19 <| .q 20 <| .q 21 <| .q 22 <| .q 23 <| .q 24 <| .q 25 <| .q 26 <| .q 27 <| .done) mixed (by kernel_rfl) rfl ?_
    refine JP.qq rfl rfl rfl (XL.mv rfl rfl XL.qd) ?_
    refine JP.qq rfl rfl rfl (XL.mv rfl rfl XL.qd) ?_
    refine JP.qq rfl rfl rfl (XL.ixB i e_L_seglog_Segment rfl rfl rfl hlt rfl XL.qd) ?_
    refine JP.qq rfl rfl rfl (XL.fa fo_seglog_Segment_0 rfl rfl XL.qd) ?_
    refine JP.qq rfl rfl rfl (XL.ldSf (o := 0) o_int rfl hlt rfl rfl XL.qd) ?_
    refine JP.qq rfl rfl rfl (XL.mv rfl rfl XL.qd) ?_
    refine JP.qq rfl rfl rfl (XL.ncP rfl rfl XL.qd) ?_
    refine JP.qq rfl rfl rfl (XL.fa fo_coracleref05_Log_1 rfl rfl XL.qd) ?_
    refine JP.qq rfl rfl rfl (XL.ld o_L_int rfl (by rfl) rfl XL.qd) ?_
    refine JP.qq rfl rfl rfl (XL.mv rfl rfl XL.qd) ?_
    refine JP.qq rfl rfl rfl (XL.ixB i e_L_int rfl rfl rfl hlti rfl XL.qd) ?_
    refine JP.qq rfl rfl rfl (XL.ldS1 o_int rfl hlti rfl rfl XL.qd) ?_
    refine JP.qq rfl rfl rfl (XL.bin rfl rfl rfl (bNeI) XL.qd) ?_
    refine JP.qq rfl rfl rfl (XL.mv rfl rfl XL.qd) ?_
    refine JP.re 59 (u := .bool false) rfl (congrArg Value.bool (decide_eq_false (by rw [hx.1]; omega))) ?_
    refine JP.qq rfl rfl rfl (XL.mv rfl rfl XL.qd) ?_
    refine JP.qq rfl rfl rfl (XL.mv rfl rfl XL.qd) ?_
    refine JP.qq rfl rfl rfl (XL.ixB i e_L_seglog_Segment rfl rfl rfl hlt rfl XL.qd) ?_
    refine JP.qq rfl rfl rfl (XL.fa fo_seglog_Segment_1 rfl rfl XL.qd) ?_
    refine JP.qq rfl rfl rfl (XL.ldSf (o := 1) o_int rfl hlt rfl rfl XL.qd) ?_
    refine JP.qq rfl rfl rfl (XL.mv rfl rfl XL.qd) ?_
    refine JP.qq rfl rfl rfl (XL.ncP rfl rfl XL.qd) ?_
    refine JP.qq rfl rfl rfl (XL.fa fo_coracleref05_Log_2 rfl rfl XL.qd) ?_
    refine JP.qq rfl rfl rfl (XL.ld o_L_int rfl (by rfl) rfl XL.qd) ?_
    refine JP.qq rfl rfl rfl (XL.mv rfl rfl XL.qd) ?_
    refine JP.qq rfl rfl rfl (XL.ixB i e_L_int rfl rfl rfl hltu rfl XL.qd) ?_
    refine JP.qq rfl rfl rfl (XL.ldS1 o_int rfl hltu rfl rfl XL.qd) ?_
    refine JP.qq rfl rfl rfl (XL.bin rfl rfl rfl (bNeI) XL.qd) ?_
    refine JP.qq rfl rfl rfl (XL.pkF rfl rfl rfl XL.qd) ?_
    refine JP.done ?_
    refine XQ.thenN ?_
    refine XC.condF' rfl (decide_eq_false (by rw [hx.2]; omega)) ?_
    refine XC.skip ?_
    refine XQ.blkN ?_
    refine XQ.thenN ?_
    refine XC.reg ?_
    refine XL.mv rfl rfl ?_
    refine XL.bin rfl rfl rfl (bAdd (by omega)) ?_
    refine XL.as rfl rfl ?_
    refine XL.nil ?_
    exact XQ.again (i + 1) (by omega) (by omega) ⟨rfl, rfl, rfl, rfl, trivial⟩ (fun w h => h)
  · refine XC.exit ?_
    refine XQ.thenE ?_
    refine XQ.thenE ?_
    refine XQ.blkE ?_
    refine XQ.thenN ?_
    refine XC.seq ?_
    refine XC.isAt vu (W.ids.length - 1) hj (fun bv _ => ?_)
    refine XC.drw (.q 0 <| .q 1 <| .q 2 <| .q 3 <| .q 4 <| .q 5 <| .q 6 <| .q 7 <| .q 8 <| .q 9 <| .q 10 <| .q 11 <| .q 12 <| .e 13 <| .done) mixed (by kernel_rfl) rfl ?_
    refine JP.qq rfl rfl rfl (XL.mv rfl rfl XL.qd) ?_
    refine JP.qq rfl rfl rfl (XL.ncP rfl rfl XL.qd) ?_
    refine JP.qq rfl rfl rfl (XL.fa fo_coracleref05_Log_2 rfl rfl XL.qd) ?_
    refine JP.qq rfl rfl rfl (XL.ld o_L_int rfl (by rfl) rfl XL.qd) ?_
    refine JP.qq rfl rfl rfl (XL.mv rfl rfl XL.qd) ?_
    refine JP.qq rfl rfl rfl (XL.ncP rfl rfl XL.qd) ?_
    refine JP.qq rfl rfl rfl (XL.fa fo_coracleref05_Log_2 rfl rfl XL.qd) ?_
    refine JP.qq rfl rfl rfl (XL.ld o_L_int rfl (by rfl) rfl XL.qd) ?_
    refine JP.qq rfl rfl rfl (XL.lenS e_L_int rfl rfl XL.qd) ?_
    refine JP.qq rfl rfl rfl (XL.bin rfl rfl rfl (bSub (by omega)) XL.qd) ?_
    refine JP.qq rfl rfl rfl (XL.ixB (W.ids.length - 1) e_L_int rfl rfl (by omega) hj rfl XL.qd) ?_
    refine JP.qq rfl rfl rfl (XL.ldS1 o_int rfl hj rfl rfl XL.qd) ?_
    refine JP.qq rfl rfl rfl (XL.bin rfl rfl rfl (bSub (by omega)) XL.qd) ?_
    refine JP.ee rfl ?_
    refine XL.as rfl rfl ?_
    refine XL.ed ?_
    refine JP.done ?_
    refine XQ.thenN ?_
    refine XC.seq ?_
    refine XC.re 9 (u := .int .i64 (16 - (T.c.lst.2 : Int))) rfl (congrArg (Value.int .i64) (by rw [← hlst.2, hgl])) ?_
    refine XC.reg ?_
    refine XL.mv rfl rfl ?_
    refine XL.call hb_seglog_Log_Fits rfl rfl (seglog_Log_Fits_fn b bd T.pl T.c T.D (0) hS.ok) (t0.c tn) ?_
    rintro _ _ ⟨rfl, rfl⟩
    simp only [List.cons_append, List.nil_append]
    refine XL.mv rfl rfl ?_
    refine XL.bin rfl rfl rfl (bGeq) ?_
    refine XL.bin rfl rfl rfl (bEqB u_bool) ?_
    refine XL.mv rfl rfl ?_
    refine XL.re 92 (u := .bool true) rfl (congrArg Value.bool (decide_eq_true (by rw [fits0 hu16]))) ?_
    refine XL.mv rfl rfl ?_
    refine XL.mv rfl rfl ?_
    refine XL.bin rfl rfl rfl (bMul (by omega)) ?_
    refine XL.call hb_seglog_Log_Fits rfl rfl (seglog_Log_Fits_fn b bd T.pl T.c T.D (233 * (16 - (T.c.lst.2 : Int))) hS.ok) (t0.c tn) ?_
    rintro _ _ ⟨rfl, rfl⟩
    simp only [List.cons_append, List.nil_append]
    refine XL.mv rfl rfl ?_
    refine XL.bin rfl rfl rfl (bGeq) ?_
    refine XL.bin rfl rfl rfl (bEqB u_bool) ?_
    refine XL.pkT rfl rfl rfl ?_
    refine XL.mv rfl rfl ?_
    refine XL.re 101 (u := .bool true) rfl (congrArg Value.bool (decide_eq_true (by rw [fitsL hu16]))) ?_
    refine XL.mv rfl rfl ?_
    refine XL.mv rfl rfl ?_
    refine XL.bin rfl rfl rfl (bMul (by omega)) ?_
    refine XL.bin rfl rfl rfl (bAdd (by omega)) ?_
    refine XL.call hb_seglog_Log_Fits rfl rfl (seglog_Log_Fits_fn b bd T.pl T.c T.D (233 * (16 - (T.c.lst.2 : Int)) + 1) hS.ok) (t0.c tn) ?_
    rintro _ _ ⟨rfl, rfl⟩
    simp only [List.cons_append, List.nil_append]
    refine XL.notT rfl rfl ?_
    refine XL.pkT rfl rfl rfl ?_
    refine XL.mv rfl rfl ?_
    refine XL.re 109 (u := .bool true) rfl (congrArg Value.bool (by rw [fitsL1 hu16]; rfl)) ?_
    refine XL.mv rfl rfl ?_
    refine XL.call hb_seglog_Log_Fits rfl rfl (seglog_Log_Fits_fn b bd T.pl T.c T.D (-1) hS.ok) (t0.c tn) ?_
    rintro _ _ ⟨rfl, rfl⟩
    simp only [List.cons_append, List.nil_append]
    refine XL.notT rfl rfl ?_
    refine XL.pkT rfl rfl rfl ?_
    refine XL.as rfl rfl ?_
    refine XL.nil ?_
    refine XQ.thenN ?_
    refine XC.ret ?_
    exact XQ.ret (.inl rfl) rfl (rC (resT rfl) <| rN) [T.C b bd, refC br W] (⟨by rw [fitsN]; rfl, rfl⟩) (fun w h => Take.sat (t1.c tall) (Sat.shut ⟨vi, vu⟩ (Take.sat (t1.c <| t1.c <| t1.c <| t0.c <| t1.c tn) h)))
end Go.Proofs.YthlfbndanknnmaaDoor
