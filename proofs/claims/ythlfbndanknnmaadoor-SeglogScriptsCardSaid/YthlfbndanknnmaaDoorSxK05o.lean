/-
  Package seglog: a log in order stays in order. Printed by mk.py out of spec_k05o.py.
-/
import Derived.Test.YthlfbndanknnmaaDoorSxK05n
namespace Go.Proofs.YthlfbndanknnmaaDoor
open Go Go.Sx

theorem nodup_len : ∀ (n : Nat) (l : List Nat), l.Nodup → (∀ x ∈ l, x < n) → l.length ≤ n
  | 0, [], _, _ => Nat.le_refl _
  | 0, x :: l, _, h => absurd (h x (List.mem_cons_self ..)) (Nat.not_lt_zero _)
  | n + 1, l, hd, h => by
    by_cases hm : n ∈ l
    · have := nodup_len n (l.erase n) (hd.erase n) (fun x hx => by
        have h1 := (hd.mem_erase_iff).1 hx
        have h2 := h x h1.2
        omega)
      rw [List.length_erase_of_mem hm] at this
      omega
    · have := nodup_len n l hd (fun x hx => by
        have h2 := h x hx
        have : x ≠ n := fun e => hm (e ▸ hx)
        omega)
      omega
def ids (l : List (Nat × Nat)) : List Nat := l.map (·.1)
/-- A log in order, and what its segments are. -/
structure LogIn (S : LogS) : Prop where
  ok : LogOk S.c S.pl S.D
  q : S.D.queue = []
  nd : (ids S.c.segs).Nodup
  lt : ∀ x ∈ S.c.segs, x.1 < segsN S.D.now.length
  fl : S.D.lasting = S.D.now
theorem leastF_free {c : Ck} : ∀ {k i : Nat}, leastF c k = some i → freeAt c i = true
  | 0, i, h => by cases h
  | k + 1, i, h => by
    rw [leastF] at h
    split at h
    · rename_i j hj; cases h; exact leastF_free hj
    · split at h
      · rename_i hf; cases h; exact hf
      · cases h
theorem free_not_mem {c : Ck} {i : Nat} (h : freeAt c i = true) : i ∉ ids c.segs := by
  intro hm
  obtain ⟨x, hx, rfl⟩ := List.mem_map.1 hm
  unfold freeAt at h
  simp only [Bool.not_eq_true', List.any_eq_false, decide_eq_true_eq] at h
  exact h x hx rfl
theorem segsN_le (n : Nat) : segsN n ≤ 64 := by unfold segsN; omega
theorem LogIn.room {S : LogS} (h : LogIn S) : S.c.segs.length < 64 ∨ leastF S.c (segsN S.D.now.length) = none := by
  cases hl : leastF S.c (segsN S.D.now.length) with
  | none => exact .inr rfl
  | some i =>
    left
    have h1 := leastF_lt hl
    have h2 := free_not_mem (leastF_free hl)
    have h3 := nodup_len (segsN S.D.now.length) (i :: ids S.c.segs) (List.nodup_cons.2 ⟨h2, h.nd⟩) (fun x hx => by
      rcases List.mem_cons.1 hx with rfl | hx
      · exact h1
      · obtain ⟨y, hy, rfl⟩ := List.mem_map.1 hx
        exact h.lt y hy)
    have := segsN_le S.D.now.length
    simp only [List.length_cons, ids, List.length_map] at h3
    omega
theorem LogIn.most {S : LogS} (h : LogIn S) : S.c.segs.length ≤ segsN S.D.now.length := by
  have := nodup_len (segsN S.D.now.length) (ids S.c.segs) h.nd (fun x hx => by
    obtain ⟨y, hy, rfl⟩ := List.mem_map.1 hx
    exact h.lt y hy)
  simpa [ids] using this
/-! ### Save -/
theorem save_in {S : LogS} {c2 : Ck} (hg : Good S.D) (hq : S.D.queue.length < 1000) (hpl : S.pl ≤ 1) (hd : 66 ≤ S.D.now.length) (hf : c2.fit) (h0 : 0 < c2.segs.length) (h64 : c2.segs.length ≤ 64) (hx : SegOn S.D.now.length c2.segs) (hnd : (ids c2.segs).Nodup) (hlt : ∀ x ∈ c2.segs, x.1 < segsN S.D.now.length) :
    LogIn (saveM S c2) ∧ (saveM S c2).D.now.length = S.D.now.length := by
  have hnl : (S.D.write (1 - S.pl) (ckB c2)).flush.now.length = S.D.now.length := write_len _ _ _
  have e : saveM S c2 = ⟨c2, 1 - S.pl, (S.D.write (1 - S.pl) (ckB c2)).flush⟩ := by unfold saveM; rw [if_pos hf]
  rw [e]
  refine ⟨⟨⟨(hg.write (by omega) (by rw [ckB_length]; omega) hq).flush, by dsimp only; omega, h0, h64, hf.1, hf.2.1, hf.2.2, by dsimp only; rw [hnl]; exact hd, fun x hxl => by dsimp only; rw [hnl]; exact hx x hxl⟩, rfl, hnd, fun x hxl => by dsimp only; rw [hnl]; exact hlt x hxl, rfl⟩, hnl⟩
theorem saveM_no {S : LogS} {c2 : Ck} (hf : ¬ c2.fit) : saveM S c2 = S := by unfold saveM; rw [if_neg hf]
theorem openM_in {S : LogS} (h : LogIn S) : LogIn (openM S).2 ∧ (openM S).2.D.now.length = S.D.now.length := by
  unfold openM
  cases hl : leastF S.c (segsN S.D.now.length) with
  | none => exact ⟨h, rfl⟩
  | some i =>
    dsimp only
    by_cases hf : (S.c.nextWith (S.c.segs ++ [(i, 0)])).fit
    · have hi := leastF_lt hl
      have h64 : S.c.segs.length < 64 := h.room.resolve_right (by rw [hl]; simp)
      refine save_in h.ok.good (by rw [h.q]; simp) h.ok.pl h.ok.d hf (by simp [Ck.nextWith]) (by simp [Ck.nextWith]; omega) ?_ ?_ ?_
      · intro x hx
        simp only [Ck.nextWith, List.mem_append, List.mem_singleton] at hx
        rcases hx with hx | rfl
        · exact h.ok.x x hx
        · exact ⟨seg_room hi, by simp⟩
      · simp only [ids, Ck.nextWith, List.map_append, List.map_cons, List.map_nil]
        rw [List.nodup_append]
        refine ⟨h.nd, by simp, ?_⟩
        intro a ha b hb
        simp only [List.mem_singleton] at hb
        subst hb
        intro e
        exact free_not_mem (leastF_free hl) (e ▸ ha)
      · intro x hx
        simp only [Ck.nextWith, List.mem_append, List.mem_singleton] at hx
        rcases hx with hx | rfl
        · exact h.lt x hx
        · exact hi
    · rw [saveM_no hf]; exact ⟨h, rfl⟩
theorem more_ids (c : Ck) (n : Nat) : ids (c.more n).segs = ids c.segs := by
  unfold ids Ck.more
  dsimp only
  rw [List.map_set]
  apply List.ext_getElem?
  intro k
  rw [List.getElem?_set]
  split
  · rename_i hk
    subst hk
    split
    · rename_i hl
      rw [List.length_map] at hl
      simp only [Ck.lst, List.getD_eq_getElem?_getD, List.getElem?_map, List.getElem?_eq_getElem hl]
      rfl
    · rename_i hl
      rw [List.getElem?_eq_none (by omega)]
  · rfl
theorem putParts_flush_len (D : DiskS) (base boot seq of : Nat) (s : List UInt8) (k : Nat) : (putParts D base boot seq of s k).flush.now.length = D.now.length := (putParts_len D base boot seq of s k).1
theorem appendS_in {S : LogS} (h : LogIn S) (s : List UInt8) (hs : S.c.seq < 1152921504606846976) (hf : (S.c.lst.2 : Int) + partsZ s.length ≤ 16) : LogIn (appendS S s) ∧ (appendS S s).D.now.length = S.D.now.length := by
  have hnl : (appendS S s).D.now.length = S.D.now.length := putParts_flush_len _ _ _ _ _ _ _
  have h0 := h.ok.n0
  have hpg := partsZ_ge s.length
  have hlx := h.ok.lx
  refine ⟨⟨⟨?_, h.ok.pl, ?_, ?_, h.ok.s, h.ok.b, ?_, by rw [hnl]; exact h.ok.d, ?_⟩, rfl, by show (ids (S.c.more _).segs).Nodup; rw [more_ids]; exact h.nd, ?_, rfl⟩, hnl⟩
  · exact (putParts_good h.ok.good (by rw [h.q]; simp) _ (by omega) (by omega)).flush
  · simp [appendS, Ck.more]; omega
  · simp [appendS, Ck.more]; exact h.ok.n64
  · simp only [appendS, Ck.more]; omega
  · intro x hx
    rw [hnl]
    simp only [appendS, Ck.more] at hx
    rcases List.mem_or_eq_of_mem_set hx with hx | rfl
    · exact h.ok.x x hx
    · exact ⟨hlx.1, by dsimp only; omega⟩
  · intro x hx
    rw [hnl]
    have hxi : x.1 ∈ ids (S.c.more (partsZ s.length).toNat).segs := List.mem_map_of_mem hx
    rw [more_ids] at hxi
    obtain ⟨y, hy, e⟩ := List.mem_map.1 hxi
    rw [← e]; exact h.lt y hy
theorem fitsM_room {c : Ck} {s : List UInt8} (h : fitsM c s.length = true) : (c.lst.2 : Int) + partsZ s.length ≤ 16 := by
  unfold fitsM at h
  simp only [Bool.and_eq_true, decide_eq_true_eq] at h
  exact h.2.2
theorem appendM_in {S : LogS} (h : LogIn S) (s : List UInt8) : LogIn (appendM S s).2.2 ∧ (appendM S s).2.2.D.now.length = S.D.now.length := by
  unfold appendM
  split
  · exact ⟨h, rfl⟩
  · split
    · exact ⟨h, rfl⟩
    · split
      · rename_i hf
        exact appendS_in h s (by omega) (fitsM_room hf)
      · split
        · exact openM_in h
        · rename_i ho
          have h1 := openM_in h
          have h2 := openM_ok h.ok (by rw [h.q]; simp) h.room (by omega)
          have h3 : (openM S).2.c.seq = S.c.seq := by
            unfold openM saveM
            split
            · rfl
            · dsimp only; split <;> rfl
          have h4 := appendS_in h1.1 s (by omega) (by rw [h2.2.2]; omega)
          exact ⟨h4.1, h4.2.trans h1.2⟩
theorem dropM_in {S : LogS} (h : LogIn S) (n : Int) : LogIn (dropM S n).2 ∧ (dropM S n).2.D.now.length = S.D.now.length := by
  unfold dropM
  split
  · exact ⟨h, rfl⟩
  · rename_i hi
    split
    · exact ⟨h, rfl⟩
    · rename_i hl
      dsimp only
      obtain ⟨j, hj, hjl⟩ := idxZ_nat hi
      rw [hj] at hl ⊢
      have hj2 : (j : Int).toNat = j := by omega
      rw [hj2]
      by_cases hf : (S.c.nextWith (S.c.segs.eraseIdx j)).fit
      · have hle := List.length_eraseIdx_of_lt hjl
        have h64 := h.ok.n64
        have hsub : ∀ x ∈ S.c.segs.eraseIdx j, x ∈ S.c.segs := fun x hx => List.mem_of_mem_eraseIdx hx
        refine save_in h.ok.good (by rw [h.q]; simp) h.ok.pl h.ok.d hf (by simp only [Ck.nextWith]; omega) (by simp only [Ck.nextWith]; omega) (fun x hx => h.ok.x x (hsub x hx)) ?_ (fun x hx => h.lt x (hsub x hx))
        simp only [ids, Ck.nextWith]
        exact h.nd.sublist ((List.eraseIdx_sublist _ _).map _)
      · rw [saveM_no hf]; exact ⟨h, rfl⟩
/-! ### Open -/
theorem ckSegs_nd {s : List UInt8} {segs : Nat} : ∀ {i : Nat} {l : List (Nat × Nat)}, ckSegs s segs i = some l → (ids l).Nodup
  | 0, l, h => by cases h; simp [ids]
  | i + 1, l, h => by
    rw [ckSegs] at h
    cases hc : ckSegs s segs i with
    | none => rw [hc] at h; cases h
    | some acc =>
      rw [hc] at h
      simp only [Option.bind_some] at h
      have ih := ckSegs_nd hc
      split at h; cases h
      split at h; cases h
      split at h; cases h
      rename_i ha
      cases h
      simp only [ids, List.map_append, List.map_cons, List.map_nil]
      rw [List.nodup_append]
      refine ⟨ih, by simp, ?_⟩
      intro a hm b hb
      simp only [List.mem_singleton] at hb
      subst hb
      intro e
      obtain ⟨y, hy, hy2⟩ := List.mem_map.1 hm
      simp only [List.any_eq_true, not_exists, not_and, decide_eq_true_eq] at ha
      refine ha y hy ?_
      have : byt s (26 + 2 * i) = (bn s (26 + 2 * i) : Int) := rfl
      rw [this, hy2, e]
theorem ckOf_nd {s : List UInt8} {segs : Nat} {c : Ck} (h : ckOf s segs = some c) : (ids c.segs).Nodup := by
  unfold ckOf at h
  split at h; cases h
  split at h; cases h
  split at h; cases h
  split at h; cases h
  split at h; cases h
  rename_i l hl
  split at h; cases h
  cases h
  exact ckSegs_nd hl
theorem pickM_nd {now : List (List UInt8)} : ∀ {i : Nat} {c : Ck} {p : Nat}, pickM now i = some (c, p) → (ids c.segs).Nodup
  | 0, c, p, h => by cases h
  | i + 1, c, p, h => by
    rw [pickM] at h
    split at h
    · exact pickM_nd h
    · rename_i c1 hc1
      split at h
      · cases h; exact ckOf_nd hc1
      · rename_i c0 p0 hc0
        split at h
        · cases h; exact ckOf_nd hc1
        · cases h; exact pickM_nd hc0
theorem furM_ids {now : List (List UInt8)} : ∀ (n : Nat) (c : Ck) (out : List RecS), ids (furM now n c out).1.segs = ids c.segs
  | 0, c, out => rfl
  | n + 1, c, out => by
    rw [furM]
    split
    · rfl
    · split
      · rfl
      · split
        · rw [furM_ids, more_ids]
        · rfl
theorem openL_some {D : DiskS} {e : Int} {S : LogS} {out : List RecS} (h : openL D = (e, some (S, out))) : ∃ c p o, pickM D.now 2 = some (c, p) ∧ knownAll D.now c.seq c.segs [] = some o ∧ e = 0 ∧ (furM D.now 17 c o).1.nb.fit ∧ S = saveM ⟨(furM D.now 17 c o).1, p, D⟩ (furM D.now 17 c o).1.nb ∧ out = (furM D.now 17 c o).2 := by
  cases hp : pickM D.now 2 with
  | none => unfold openL at h; rw [hp] at h; cases h
  | some x =>
    obtain ⟨c, p⟩ := x
    cases hk : knownAll D.now c.seq c.segs [] with
    | none => unfold openL at h; rw [hp] at h; dsimp only at h; rw [hk] at h; cases h
    | some o =>
      rw [openL_eq hp hk rfl] at h
      split at h; cases h
      split at h
      · rename_i hf
        cases h
        exact ⟨c, p, o, rfl, hk, rfl, hf, rfl, rfl⟩
      · cases h
theorem openL_in {D : DiskS} {e : Int} {S : LogS} {out : List RecS} (hD : Good D) (hq : D.queue.length ≤ 100) (h66 : 66 ≤ D.now.length) (h : openL D = (e, some (S, out))) : LogIn S ∧ S.D.now.length = D.now.length := by
  obtain ⟨c, p, o, hp, hk, rfl, hf, rfl, rfl⟩ := openL_some h
  obtain ⟨hp2, hks, hkb, hkq, hk1, hkn, hkx⟩ := pickM_ok hp
  have hx : SegOn D.now.length c.segs := fun x hx => ⟨seg_room (hkx x hx).1, (hkx x hx).2⟩
  obtain ⟨f1, f2, f3, f4, f5⟩ := furM_ok (now := D.now) (N := D.now.length) 17 c o (by omega) hkq hx
  have hs := segsN_le D.now.length
  refine save_in (S := ⟨(furM D.now 17 c o).1, p, D⟩) hD (by dsimp only; omega) (by dsimp only; omega) h66 hf (by simp only [Ck.nb]; omega) (by simp only [Ck.nb]; omega) f5 ?_ ?_
  · simp only [Ck.nb]; rw [furM_ids]; exact pickM_nd hp
  · intro x hxm
    have hxi : x.1 ∈ ids (furM D.now 17 c o).1.segs := List.mem_map_of_mem hxm
    rw [furM_ids] at hxi
    obtain ⟨y, hy, e⟩ := List.mem_map.1 hxi
    rw [← e]; exact (hkx y hy).1
theorem good_new {n : Nat} (h : n ≤ 1026) : Good (DiskS.new n) :=
  ⟨⟨by simp [DiskS.new], by simpa [DiskS.new] using h, (by intro x hx; cases hx), by simp [DiskS.new], by simp [DiskS.new], fun s hs => by simp only [DiskS.new, List.mem_replicate] at hs; rw [hs.2]; simp⟩, rfl, rfl, by simp [DiskS.new]⟩
theorem format_good {D : DiskS} (h : Good D) (hq : D.queue.length ≤ 100) (hd : 2 ≤ D.now.length) : Good (formatM D) ∧ (formatM D).now.length = D.now.length ∧ (formatM D).queue = [] := by
  have h1 : (D.write 1 []).queue.length = D.queue.length + 1 := by simp [DiskS.write]
  have hcl : (ckB ck0).length = 28 := ckB_length ck0
  refine ⟨((h.write (n := 1) (data := []) (by omega) (by simp) (by omega)).write (n := 0) (data := ckB ck0) (by rw [write_len]; omega) (by omega) (by omega)).flush, ?_, rfl⟩
  show ((D.write 1 []).write 0 (ckB ck0)).now.length = _
  rw [write_len, write_len]
/-- The power goes off and on where nothing waits. -/
def DiskS.crash (D : DiskS) (k : Int) : DiskS := { D.lose k with off := false, left := 0 }
theorem crash_eq {D : DiskS} (hq : D.queue = []) (hf : D.lasting = D.now) (k : Int) : D.crash k = { D with lasting := D.now, now := D.now, queue := [], off := false, left := 0 } := by
  have e : D.loseTo k D.queue.length = D.now := by rw [hq]; exact hf
  unfold DiskS.crash DiskS.lose; rw [e]
theorem crash_good {D : DiskS} (h : Good D) (hq : D.queue = []) (hf : D.lasting = D.now) (k : Int) : Good (D.crash k) := by
  rw [crash_eq hq hf]
  exact ⟨⟨rfl, h.wf.most, (by intro x hx; cases hx), by simp, by simp, h.wf.size⟩, rfl, rfl, by simp⟩
end Go.Proofs.YthlfbndanknnmaaDoor
