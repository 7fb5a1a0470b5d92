/-
  One step of a script: the log and the document's. Printed by mk.py out of spec_k05x.py.
-/
import Derived.Test.YthlfbndanknnmaaDoorSxK05w
namespace Go.Proofs.YthlfbndanknnmaaDoor
open Go Go.Sx

abbrev recL (gs : List Gr) : List RecS := (recsOf gs).map (·.2)
/-- How far the numbers have come. -/
structure Far (i : Nat) (S : LogS) : Prop where
  s : S.c.serial ≤ 2 + i
  b : S.c.boot ≤ 1 + i
  q : S.c.seq ≤ i
/-- All that holds between the steps. -/
structure Inv (N i : Nat) (S : LogS) (gs : List Gr) (W : RefL) : Prop where
  l : LogIn S
  d : DiskIn S gs
  r : RelW S gs W
  f : Far i S
  n : S.D.now.length = N
theorem save_c {S : LogS} {c2 : Ck} (hf : c2.fit) : (saveM S c2).c = c2 := by unfold saveM; rw [if_pos hf]
theorem save_n (S : LogS) (c2 : Ck) : (saveM S c2).D.now.length = S.D.now.length := by
  unfold saveM
  split
  · exact write_len _ _ _
  · rfl
theorem gs_last {S : LogS} {gs : List Gr} (hd : DiskIn S gs) (hS : LogIn S) : ∃ pre id l, gs = pre ++ [(id, l)] := by
  have hne : gs ≠ [] := by
    rintro rfl
    have := hS.ok.n0
    rw [hd.segs] at this
    simp [segsOf] at this
  obtain ⟨pre, g, rfl⟩ := ne_split hne
  exact ⟨pre, g.1, g.2, rfl⟩
theorem used_set (pre : List Gr) (id : Nat) (l m : List BR) (k : Nat) (hk : k = pre.length) : ((pre ++ [(id, l)]).map fun g : Gr => sz g.2).set k (sz m) = (pre ++ [(id, m)]).map fun g : Gr => sz g.2 := by
  subst hk
  rw [List.map_append, List.set_append_right _ _ (by simp)]
  simp
theorem append_core {S : LogS} {pre : List Gr} {id : Nat} {l : List BR} {W : RefL} (hS : LogIn S) (hd : DiskIn S (pre ++ [(id, l)])) (hr : RelW S (pre ++ [(id, l)]) W) {s : List UInt8} (hs : s.length ≤ 3728) (hf : (S.c.lst.2 : Int) + partsZ s.length ≤ 16) (hq : S.c.seq < 1152921504606846976) :
    ∃ m, m = l ++ [(S.c.boot, (⟨S.c.seq, S.c.lst.1, s⟩ : RecS))] ∧ LogIn (appendS S s) ∧ DiskIn (appendS S s) (pre ++ [(id, m)]) ∧ RelW (appendS S s) (pre ++ [(id, m)]) { W with used := W.used.set (W.ids.length - 1) (W.used.getD (W.ids.length - 1) 0 + (partsZ s.length).toNat), seq := W.seq + 1 } ∧ (appendS S s).D.now.length = S.D.now.length ∧
      (appendS S s).c.serial = S.c.serial ∧ (appendS S s).c.boot = S.c.boot ∧ (appendS S s).c.seq = S.c.seq + 1 ∧ recL (pre ++ [(id, m)]) = recL (pre ++ [(id, l)]) ++ [⟨S.c.seq, S.c.lst.1, s⟩] := by
  refine ⟨_, rfl, (appendS_in hS s hq hf).1, hd.append hS hs hf hq, ?_, (appendS_in hS s hq hf).2, by rw [appendS_c]; rfl, by rw [appendS_c]; rfl, by rw [appendS_c]; rfl, by simp [recL, recsOf]⟩
  have hl := hr.len hd
  have hlst := (hr.lst hd hS).2
  have hpre : W.ids.length - 1 = pre.length := by rw [hl.2.2]; simp
  refine ⟨by rw [hr.s, (appendS_in hS s hq hf).2], by rw [hr.i]; simp, ?_, by rw [appendS_c, hr.q]; rfl, by rw [appendS_c, hr.b]; rfl⟩
  dsimp only
  rw [hlst, hd.lst]
  dsimp only
  have e : sz l + (partsZ s.length).toNat = sz (l ++ [(S.c.boot, (⟨S.c.seq, S.c.lst.1, s⟩ : RecS))]) := by rw [sz_snoc]; rfl
  rw [hd.lst] at e
  rw [e, hr.u]
  exact used_set _ _ _ _ _ hpre
theorem fitsM_iff {c : Ck} {s : List UInt8} (hs : s.length ≤ 3728) : (fitsM c s.length = true) ↔ (c.lst.2 : Int) + partsZ s.length ≤ 16 := by
  unfold fitsM
  simp only [Bool.and_eq_true, decide_eq_true_eq]
  constructor
  · exact fun h => h.2.2
  · exact fun h => ⟨by omega, by omega, h⟩
theorem step_append {N i : Nat} {S : LogS} {gs : List Gr} {W : RefL} (h : Inv N i S gs W) (hi : i ≤ 1000000000000000) (s : List UInt8) :
    (appendM S s).1 = (refApp W s).1 ∧ (appendM S s).2.1 = (refApp W s).2.1 ∧ ∃ gs', Inv N (i + 1) (appendM S s).2.2 gs' (refApp W s).2.2 ∧ recL gs' = if (refApp W s).2.1 = 0 then recL gs ++ [(refApp W s).1] else recL gs := by
  obtain ⟨hS, hd, hr, ⟨f1, f2, f3⟩, hN⟩ := h
  have hlst := hr.lst hd hS
  have hpg := partsZ_ge s.length
  have hfar : Far (i + 1) S := ⟨by omega, by omega, by omega⟩
  by_cases hs : 3728 < s.length
  · have eA : appendM S s = (⟨0, 0, []⟩, 2, S) := by unfold appendM; rw [if_pos (by unfold partsZ; omega)]
    have eR : refApp W s = (⟨0, 0, []⟩, 2, W) := by unfold refApp; rw [if_pos hs]
    rw [eA, eR]
    exact ⟨rfl, rfl, gs, ⟨hS, hd, hr, hfar, hN⟩, by rw [if_neg (by simp)]⟩
  · have hs' : s.length ≤ 3728 := by omega
    have hp : partsZ (s.length : Int) ≤ 16 := by unfold partsZ; omega
    obtain ⟨pre, id, l, rfl⟩ := gs_last hd hS
    by_cases hf : fitsM S.c s.length = true
    · have hf' := (fitsM_iff hs').1 hf
      have eA : appendM S s = (⟨S.c.seq, S.c.lst.1, s⟩, 0, appendS S s) := by unfold appendM; rw [if_neg (by omega), if_neg (by omega), if_pos hf]
      have eR : refApp W s = (⟨W.seq, W.ids.getD (W.ids.length - 1) 0, s⟩, 0, { W with used := W.used.set (W.ids.length - 1) (W.used.getD (W.ids.length - 1) 0 + (partsZ s.length).toNat), seq := W.seq + 1 }) := by unfold refApp; rw [if_neg hs, if_neg (by rw [hlst.2]; omega)]
      rw [eA, eR]
      obtain ⟨m, _, h1, h2, h3, h4, h5, h6, h7, h8⟩ := append_core hS hd hr hs' hf' (by omega)
      have er : (⟨S.c.seq, S.c.lst.1, s⟩ : RecS) = ⟨W.seq, W.ids.getD (W.ids.length - 1) 0, s⟩ := by rw [hlst.1, hr.q]
      refine ⟨er, rfl, _, ⟨h1, h2, h3, ⟨by dsimp only; omega, by dsimp only; omega, by dsimp only; omega⟩, h4.trans hN⟩, ?_⟩
      rw [if_pos rfl, h8, er]
    · have hf' : ¬ ((S.c.lst.2 : Int) + partsZ s.length ≤ 16) := fun hx => hf ((fitsM_iff hs').2 hx)
      have hli := leastI_eq (c := S.c) W.segs
      rw [← hr.ids hd] at hli
      cases hl : leastF S.c (segsN S.D.now.length) with
      | none =>
        have he : openM S = (21, S) := by unfold openM; rw [hl]
        have hli1 := hli.1 (by rw [hr.s]; exact hl)
        have eA : appendM S s = (⟨0, 0, []⟩, 21, S) := by unfold appendM; rw [if_neg (by omega), if_neg (by omega), if_neg hf, he, if_pos (by simp)]
        have eR : refApp W s = (⟨0, 0, []⟩, 21, W) := by unfold refApp; rw [if_neg hs, if_pos (by rw [hlst.2]; omega), hli1, if_pos (by decide)]
        rw [eA, eR]
        exact ⟨rfl, rfl, _, ⟨hS, hd, hr, hfar, hN⟩, by rw [if_neg (by simp)]⟩
      | some k =>
        have hfit : (S.c.nextWith (S.c.segs ++ [(k, 0)])).fit := ⟨by simp only [Ck.nextWith]; omega, by simp only [Ck.nextWith]; omega, by simp only [Ck.nextWith]; omega⟩
        obtain ⟨T, hT⟩ : ∃ T, saveM S (S.c.nextWith (S.c.segs ++ [(k, 0)])) = T := ⟨_, rfl⟩
        have he : openM S = (0, T) := by unfold openM; rw [hl]; dsimp only; unfold errF; rw [if_pos hfit, hT]
        have hli2 := hli.2 k (by rw [hr.s]; exact hl)
        have hd2 := hd.more hS hl hfit
        have hS2 := (openM_in hS).1
        rw [he] at hS2
        dsimp only at hS2
        have hTc : T.c = S.c.nextWith (S.c.segs ++ [(k, 0)]) := by rw [← hT]; exact save_c hfit
        have hTn : T.D.now.length = S.D.now.length := by rw [← hT]; exact save_n _ _
        rw [hT] at hd2
        have hTq : T.c.seq = S.c.seq := by rw [hTc]; rfl
        have hTl : T.c.lst = (k, 0) := by rw [hd2.lst]; rfl
        have eA : appendM S s = (⟨T.c.seq, T.c.lst.1, s⟩, 0, appendS T s) := by unfold appendM; rw [if_neg (by omega), if_neg (by omega), if_neg hf, he, if_neg (by simp)]
        have eR : refApp W s = (⟨W.seq, k, s⟩, 0, { W with ids := W.ids ++ [k], used := W.used ++ [(partsZ s.length).toNat], seq := W.seq + 1 }) := by
          unfold refApp; rw [if_neg hs, if_pos (by rw [hlst.2]; omega), hli2, if_neg (by omega)]; rfl
        rw [eA, eR]
        have hr2 : RelW T ((pre ++ [(id, l)]) ++ [(k, [])]) { W with ids := W.ids ++ [k], used := W.used ++ [0] } := ⟨by rw [hTn]; exact hr.s, by dsimp only; rw [hr.i]; simp, by dsimp only; rw [hr.u]; simp [sz], by dsimp only; rw [hTq]; exact hr.q, by dsimp only; rw [hTc]; exact hr.b⟩
        obtain ⟨m, _, h1, h2, h3, h4, h5, h6, h7, h8⟩ := append_core hS2 hd2 hr2 hs' (by rw [hTl]; dsimp only; omega) (by omega)
        have hl2 := hr.len hd
        have e3 : ({ W with ids := W.ids ++ [k], used := (W.used ++ [0]).set ((W.ids ++ [k]).length - 1) ((W.used ++ [0]).getD ((W.ids ++ [k]).length - 1) 0 + (partsZ s.length).toNat), seq := W.seq + 1 } : RefL) = { W with ids := W.ids ++ [k], used := W.used ++ [(partsZ s.length).toNat], seq := W.seq + 1 } := by
          have e4 : (W.ids ++ [k]).length - 1 = W.used.length := by simp [hl2.2.1]
          rw [e4, List.set_append_right _ _ (Nat.le_refl _)]
          simp [List.getD_eq_getElem?_getD]
        have er : (⟨T.c.seq, T.c.lst.1, s⟩ : RecS) = ⟨W.seq, k, s⟩ := by rw [hTq, hTl, hr.q]
        dsimp only at h3
        rw [e3] at h3
        refine ⟨er, rfl, _, ⟨h1, h2, h3, ⟨?_, ?_, ?_⟩, h4.trans (hTn.trans hN)⟩, ?_⟩
        · rw [h5, hTc]; simp only [Ck.nextWith]; omega
        · rw [h6, hTc]; simp only [Ck.nextWith]; omega
        · rw [h7, hTq]; omega
        · have hz : recL ((pre ++ [(id, l)]) ++ [(k, ([] : List BR))]) = recL (pre ++ [(id, l)]) := by
            unfold recL
            rw [show recsOf ((pre ++ [(id, l)]) ++ [(k, ([] : List BR))]) = recsOf (pre ++ [(id, l)]) from by simp [recsOf]]
          rw [if_pos rfl, h8, er, hz]
/-! ### Drop -/
theorem refDrop_none {W : RefL} {n : Int} : ∀ k, k ≤ W.ids.length - 1 → (∀ i, W.ids.length - 1 - k ≤ i → i < W.ids.length - 1 → ((W.ids.getD i 0 : Nat) : Int) ≠ n) → refDrop W n k = (1, W)
  | 0, _, _ => rfl
  | k + 1, hk, h => by
    rw [refDrop, if_neg (h _ (Nat.le_refl _) (by omega))]
    exact refDrop_none k (by omega) (fun i h1 h2 => h i (by omega) h2)
theorem refDrop_at {W : RefL} {n : Int} {j : Nat} (hj : j < W.ids.length - 1) (hn : ((W.ids.getD j 0 : Nat) : Int) = n) : ∀ k, k ≤ W.ids.length - 1 → W.ids.length - 1 - k ≤ j → (∀ i, i < j → ((W.ids.getD i 0 : Nat) : Int) ≠ n) → refDrop W n k = (0, { W with ids := W.ids.eraseIdx j, used := W.used.eraseIdx j })
  | 0, _, h, _ => by omega
  | k + 1, hk, h, hb => by
    rw [refDrop]
    by_cases he : W.ids.length - 1 - (k + 1) = j
    · rw [he, if_pos hn]
    · rw [if_neg (hb _ (by omega))]
      exact refDrop_at hj hn k (by omega) (by omega) hb
theorem recs_drop {n : Int} : ∀ (gs : List Gr) (j : Nat) (hj : j < gs.length), (∀ g ∈ gs, ∀ x ∈ g.2, x.2.seg = g.1) → (gs.map (·.1)).Nodup → ((gs[j]).1 : Int) = n → recL (gs.eraseIdx j) = (recL gs).filter fun r => decide ((r.seg : Int) ≠ n)
  | g :: gs, 0, _, hs, hd, hn => by
    have hdd := List.nodup_cons.1 hd
    have e : recL (g :: gs) = g.2.map (·.2) ++ recL gs := by simp [recL, recsOf]
    rw [e, List.filter_append]
    have h1 : (g.2.map (·.2)).filter (fun r => decide ((r.seg : Int) ≠ n)) = [] := by
      rw [List.filter_eq_nil_iff]
      intro r hr
      obtain ⟨x, hx, rfl⟩ := List.mem_map.1 hr
      rw [hs g (List.mem_cons_self ..) x hx]
      have : (g.1 : Int) = n := hn
      simp [this]
    have h2 : (recL gs).filter (fun r => decide ((r.seg : Int) ≠ n)) = recL gs := by
      rw [List.filter_eq_self]
      intro r hr
      obtain ⟨x, hx, rfl⟩ := List.mem_map.1 hr
      obtain ⟨g', hg', hx'⟩ := List.mem_flatMap.1 hx
      rw [hs g' (List.mem_cons_of_mem _ hg') x hx']
      have hne : g'.1 ≠ g.1 := fun e => hdd.1 (by show g.1 ∈ gs.map (·.1); rw [← e]; exact List.mem_map_of_mem hg')
      have : (g.1 : Int) = n := hn
      simp; omega
    rw [h1, h2]; rfl
  | g :: gs, j + 1, hj, hs, hd, hn => by
    have hdd := List.nodup_cons.1 hd
    have e : ∀ (l : List Gr), recL (g :: l) = g.2.map (·.2) ++ recL l := fun l => by simp [recL, recsOf]
    have hj' : j < gs.length := by simpa using hj
    have hn' : ((gs[j]).1 : Int) = n := by simpa using hn
    rw [List.eraseIdx_cons_succ, e, e, List.filter_append, ← recs_drop gs j hj' (fun g' hg' => hs g' (List.mem_cons_of_mem _ hg')) hdd.2 hn']
    congr 1
    symm
    rw [List.filter_eq_self]
    intro r hr
    obtain ⟨x, hx, rfl⟩ := List.mem_map.1 hr
    rw [hs g (List.mem_cons_self ..) x hx]
    have hne : (gs[j]).1 ≠ g.1 := fun e => hdd.1 (by show g.1 ∈ gs.map (·.1); rw [← e]; exact List.mem_map_of_mem (List.getElem_mem hj'))
    simp; omega
theorem map_erase {α β : Type} (f : α → β) : ∀ (l : List α) (j : Nat), (l.map f).eraseIdx j = (l.eraseIdx j).map f
  | [], j => rfl
  | x :: l, 0 => rfl
  | x :: l, j + 1 => by
    rw [List.map_cons, List.eraseIdx_cons_succ, List.eraseIdx_cons_succ, List.map_cons, map_erase f l j]
theorem step_drop {N i : Nat} {S : LogS} {gs : List Gr} {W : RefL} (h : Inv N i S gs W) (hi : i ≤ 1000000000000000) (n : Int) :
    (dropM S n).1 = (refDrop W n (W.ids.length - 1)).1 ∧ ∃ gs', Inv N (i + 1) (dropM S n).2 gs' (refDrop W n (W.ids.length - 1)).2 ∧ recL gs' = if (dropM S n).1 = 0 then (recL gs).filter (fun r => decide ((r.seg : Int) ≠ n)) else recL gs := by
  obtain ⟨hS, hd, hr, ⟨f1, f2, f3⟩, hN⟩ := h
  have hfar : Far (i + 1) S := ⟨by omega, by omega, by omega⟩
  have hl := hr.len hd
  have h0 := hS.ok.n0
  have hat : ∀ k, k < W.ids.length → ((S.c.segs[k]?).map fun y => decide ((y.1 : Int) = n)) = some (decide (((W.ids.getD k 0 : Nat) : Int) = n)) := by
    intro k hk
    have := hr.at hd (i := k) (by omega) hk (by omega)
    rw [List.getElem?_eq_getElem (by omega), getD_at hk, ← this.1]; rfl
  have hno : dropM S n = (1, S) → refDrop W n (W.ids.length - 1) = (1, W) → (dropM S n).1 = (refDrop W n (W.ids.length - 1)).1 ∧ ∃ gs', Inv N (i + 1) (dropM S n).2 gs' (refDrop W n (W.ids.length - 1)).2 ∧ recL gs' = if (dropM S n).1 = 0 then (recL gs).filter (fun r => decide ((r.seg : Int) ≠ n)) else recL gs := by
    intro e1 e2
    rw [e1, e2]
    exact ⟨rfl, gs, ⟨hS, hd, hr, hfar, hN⟩, by rw [if_neg (by simp)]⟩
  cases ha : S.c.segs.any (isSeg n) with
  | false =>
    have hidx : idxZ (isSeg n) S.c.segs = -1 := by unfold idxZ; rw [ha]; rfl
    refine hno (by unfold dropM; rw [hidx, if_pos (by decide)]) (refDrop_none _ (Nat.le_refl _) (fun k _ hk he => ?_))
    have h1 := hat k (by omega)
    rw [List.getElem?_eq_getElem (by omega), decide_eq_true he] at h1
    rw [List.any_eq_false] at ha
    refine ha _ (List.getElem_mem (n := k) (by omega)) ?_
    simpa using h1
  | true =>
    obtain ⟨j, hjd⟩ : ∃ j, S.c.segs.findIdx (isSeg n) = j := ⟨_, rfl⟩
    have hidx : idxZ (isSeg n) S.c.segs = (j : Int) := by unfold idxZ; rw [if_pos ha, hjd]
    have hjl : j < S.c.segs.length := by rw [← hjd]; exact List.findIdx_lt_length_of_exists (by simpa using ha)
    have hjn : ((W.ids.getD j 0 : Nat) : Int) = n := by
      have h1 := hat j (by omega)
      have h2 : isSeg n S.c.segs[j] = true := by
        have := List.findIdx_getElem (xs := S.c.segs) (p := isSeg n) (w := by rw [hjd]; exact hjl)
        simpa only [hjd] using this
      rw [List.getElem?_eq_getElem hjl] at h1
      simp only [Option.map_some, Option.some.injEq] at h1
      have h3 : isSeg n S.c.segs[j] = decide (((W.ids.getD j 0 : Nat) : Int) = n) := h1
      rw [h2] at h3
      exact of_decide_eq_true h3.symm
    have hjb : ∀ k, k < j → ((W.ids.getD k 0 : Nat) : Int) ≠ n := by
      intro k hk he
      have h1 := hat k (by omega)
      rw [List.getElem?_eq_getElem (by omega)] at h1
      simp only [Option.map_some, Option.some.injEq] at h1
      have h2 := List.not_of_lt_findIdx (xs := S.c.segs) (p := isSeg n) (i := k) (by rw [hjd]; exact hk)
      have h3 : isSeg n S.c.segs[k] = decide (((W.ids.getD k 0 : Nat) : Int) = n) := h1
      rw [decide_eq_true he] at h3
      rw [h3] at h2
      simp at h2
    by_cases hlast : j = S.c.segs.length - 1
    · refine hno (by unfold dropM; rw [hidx, if_neg (by omega), if_pos (by omega)]) (refDrop_none _ (Nat.le_refl _) (fun k _ hk => hjb k (by omega)))
    · have hfit : (S.c.nextWith (S.c.segs.eraseIdx j)).fit := ⟨by simp only [Ck.nextWith]; omega, by simp only [Ck.nextWith]; omega, by simp only [Ck.nextWith]; omega⟩
      have e1 : dropM S n = (0, saveM S (S.c.nextWith (S.c.segs.eraseIdx j))) := by
        unfold dropM
        rw [hidx, if_neg (by omega), if_neg (by omega)]
        unfold errF
        rw [show (j : Int).toNat = j by omega, if_pos hfit]
      have e2 := refDrop_at (W := W) (n := n) (j := j) (by omega) hjn (W.ids.length - 1) (Nat.le_refl _) (by omega) hjb
      have hd2 := hd.less hS (j := j) (by omega) hfit
      have hS2 := (dropM_in hS n).1
      rw [e1] at hS2
      dsimp only at hS2
      rw [e1, e2]
      obtain ⟨T, hT⟩ : ∃ T, saveM S (S.c.nextWith (S.c.segs.eraseIdx j)) = T := ⟨_, rfl⟩
      have hTc : T.c = S.c.nextWith (S.c.segs.eraseIdx j) := by rw [← hT]; exact save_c hfit
      have hTn : T.D.now.length = S.D.now.length := by rw [← hT]; exact save_n _ _
      rw [hT] at hd2 hS2 ⊢
      refine ⟨rfl, gs.eraseIdx j, ⟨hS2, hd2, ⟨by rw [hTn]; exact hr.s, by dsimp only; rw [hr.i]; exact (map_erase _ _ _), by dsimp only; rw [hr.u]; exact (map_erase _ _ _), by dsimp only; rw [hTc]; exact hr.q, by dsimp only; rw [hTc]; exact hr.b⟩, ⟨by rw [hTc]; simp only [Ck.nextWith]; omega, by rw [hTc]; simp only [Ck.nextWith]; omega, by rw [hTc]; simp only [Ck.nextWith]; omega⟩, hTn.trans hN⟩, ?_⟩
      rw [if_pos rfl]
      refine recs_drop gs j (by omega) (fun g hg x hx => ((hd.at' g hg).1.ok x hx).2) (by rw [← hr.i, hr.ids hd]; exact hS.nd) ?_
      refine Eq.trans ?_ hjn
      rw [hr.i, getD_at (by simp; omega)]
      simp
/-! ### Open -/
theorem step_open {N i : Nat} {S : LogS} {gs : List Gr} {W : RefL} (h : Inv N i S gs W) (hi : i ≤ 1000000000000000) :
    openL S.D = (0, some (saveM S S.c.nb, recL gs)) ∧ Inv N (i + 1) (saveM S S.c.nb) gs { W with boot := W.boot + 1 } := by
  obtain ⟨hS, hd, hr, ⟨f1, f2, f3⟩, hN⟩ := h
  have hfit : S.c.nb.fit := ⟨by simp only [Ck.nb]; omega, by simp only [Ck.nb]; omega, by simp only [Ck.nb]; omega⟩
  have ho := hd.open hS (by omega) (by omega) (by omega)
  have hin := openL_in hS.ok.good (by rw [hS.q]; simp) hS.ok.d ho
  have hc := save_c (S := S) hfit
  have hn := save_n S S.c.nb
  refine ⟨ho, hin.1, hd.nb hS hfit, ⟨by dsimp only; rw [hn]; exact hr.s, hr.i, hr.u, by dsimp only; rw [hc]; exact hr.q, by dsimp only; rw [hc, hr.b]; rfl⟩, ⟨by rw [hc]; simp only [Ck.nb]; omega, by rw [hc]; simp only [Ck.nb]; omega, by rw [hc]; simp only [Ck.nb]; omega⟩, hn.trans hN⟩
def refZ (N : Nat) : RefL := ⟨segsN N, [0], [0], 0, 1, 0⟩
theorem step_init {N : Nat} (h1 : 66 ≤ N) (h2 : N ≤ 1026) : openL (formatM (DiskS.new N)) = (0, some (saveM (fmtS N) ck0.nb, [])) ∧ Inv N 0 (saveM (fmtS N) ck0.nb) [(0, [])] (refZ N) := by
  obtain ⟨hS, hd⟩ := fmt_in h1 h2
  have hfit : ck0.nb.fit := by decide
  have ho := hd.open hS (by show 1 < _; omega) (by show 0 < _; omega) (by show 0 < _; omega)
  have hln : (fmtS N).D.now.length = N := fmt_len N
  have hin := openL_in hS.ok.good (by rw [hS.q]; simp) hS.ok.d ho
  have hc := save_c (S := fmtS N) hfit
  have hn := save_n (fmtS N) ck0.nb
  refine ⟨ho, hin.1, hd.nb hS hfit, ⟨by show segsN N = _; rw [hn, hln], rfl, rfl, by rw [hc]; rfl, by rw [hc]; rfl⟩, ⟨by rw [hc]; decide, by rw [hc]; decide, by rw [hc]; decide⟩, hn.trans hln⟩
theorem inv_len {N i : Nat} {S : LogS} {gs : List Gr} {W : RefL} (h : Inv N i S gs W) : (recL gs).length ≤ 1024 := by
  have hl := h.r.len h.d
  have h64 := h.l.ok.n64
  have key : ∀ (l : List Gr), (∀ g ∈ l, SegAt S.D.now g.1 0 g.2 ∧ sz g.2 ≤ 16) → (recsOf l).length ≤ 16 * l.length := by
    intro l
    induction l with
    | nil => intro _; simp [recsOf]
    | cons g l ih =>
      intro hg
      have h1 := hg g (List.mem_cons_self ..)
      have h2 := ih fun g' hg' => hg g' (List.mem_cons_of_mem _ hg')
      have h3 := len_le_sz h1.1
      have e : recsOf (g :: l) = g.2 ++ recsOf l := rfl
      rw [e, List.length_append, List.length_cons]; omega
  have := key gs h.d.at'
  simp only [recL, List.length_map]; omega
end Go.Proofs.YthlfbndanknnmaaDoor
