/-
  Package seglog: the disk bears the log behind each call. Printed by mk.py out of spec_k05t.py.
-/
import Derived.Test.YthlfbndanknnmaaDoorSxK05s
namespace Go.Proofs.YthlfbndanknnmaaDoor
open Go Go.Sx

theorem sec_set {now : List (List UInt8)} {n : Nat} {data : List UInt8} (hn : n < now.length) (i : Nat) : sec (now.set n data) i = if n = i then full data else sec now i := by
  unfold sec
  simp only [List.getD_eq_getElem?_getD, List.getElem?_set]
  split
  · rfl
  · rfl
theorem putParts_sec {D : DiskS} {base boot seq of : Nat} {s : List UInt8} : ∀ (k : Nat), base + k ≤ D.now.length → ∀ i, sec (putParts D base boot seq of s k).now i = if base ≤ i ∧ i < base + k then full (partB boot seq (i - base) of (chunkOf s (i - base))) else sec D.now i
  | 0, _, i => by rw [if_neg (by omega)]; rfl
  | k + 1, hk, i => by
    have hl := (putParts_len D base boot seq of s k).1
    show sec ((putParts D base boot seq of s k).now.set (base + k) (partB boot seq k of (chunkOf s k))) i = _
    rw [sec_set (by omega), putParts_sec k (by omega) i]
    by_cases h : base + k = i
    · rw [if_pos h, if_pos (by omega), show i - base = k by omega]
    · rw [if_neg h]
      by_cases h2 : base ≤ i ∧ i < base + k
      · rw [if_pos h2, if_pos (by omega)]
      · rw [if_neg h2, if_neg (by omega)]
theorem ne_split {gs : List Gr} (h : gs ≠ []) : ∃ pre g, gs = pre ++ [g] := ⟨gs.dropLast, gs.getLast h, (List.dropLast_concat_getLast h).symm⟩
theorem DiskIn.save {S : LogS} {gs : List Gr} (h : DiskIn S gs) (hS : LogIn S) {c2 : Ck} {gs2 : List Gr} (hf : c2.fit) (hser : S.c.serial < c2.serial) (hseq : c2.seq = S.c.seq) (hsg : c2.segs = segsOf gs2)
    (hok : SegsOk (segsN S.D.now.length) c2.segs) (hat : ∀ g ∈ gs2, SegAt S.D.now g.1 0 g.2 ∧ sz g.2 ≤ 16) (hrise : Rise ((recsOf gs2).map (·.2))) (hlt : ∀ x ∈ recsOf gs2, x.2.seq < S.c.seq) : DiskIn (saveM S c2) gs2 := by
  have hpl := hS.ok.pl
  have hd := hS.ok.d
  have h64 := segsN_le S.D.now.length
  have hl := hok.len
  have hne : gs2 ≠ [] := by
    rintro rfl
    have := hok.n1
    rw [hsg] at this
    simp [segsOf] at this
  have e : saveM S c2 = ⟨c2, 1 - S.pl, (S.D.write (1 - S.pl) (ckB c2)).flush⟩ := by unfold saveM; rw [if_pos hf]
  have hs : ∀ i, sec (saveM S c2).D.now i = if 1 - S.pl = i then full (ckB c2) else sec S.D.now i := by
    rw [e]; exact sec_set (by omega)
  have hlen : (saveM S c2).D.now.length = S.D.now.length := by rw [e]; exact write_len _ _ _
  have hs2 : ∀ i, 2 ≤ i → sec (saveM S c2).D.now i = sec S.D.now i := fun i hi => by rw [hs, if_neg (by omega)]
  have ec : (saveM S c2).c = c2 := by rw [e]
  have ep : (saveM S c2).pl = 1 - S.pl := by rw [e]
  refine ⟨by rw [ec]; exact hsg, fun g hg => ⟨(hat g hg).1.to fun k _ _ => hs2 _ (by omega), (hat g hg).2⟩, hrise, by rw [ec, hseq]; exact hlt, fun i hi p hp => ?_, fun c' hc' => ?_, ?_⟩
  · rw [hs2 i hi] at hp; rw [ec, hseq]; exact h.stale i hi p hp
  · rw [ep, hs, if_neg (by omega), show 1 - (1 - S.pl) = S.pl by omega, hlen] at hc'
    obtain ⟨c0, pre, id, l0, l1, e1, e2, e3, _⟩ := h.ck
    rw [e2] at hc'
    rw [← Option.some.inj hc', e3, ec]; exact hser
  · obtain ⟨pre, g, hg⟩ := ne_split hne
    refine ⟨c2, pre, g.1, g.2, [], by rw [hg]; simp, ?_, by rw [ec], by rw [ec], by rw [hsg, hg, segsOf_append]; rfl, by rw [ec]; simp, trivial, fun x hx => ?_⟩
    · rw [ep, hs, if_pos rfl, hlen]
      exact ckOf_ckB h64 hf hok
    · rw [hseq]
      refine hlt x ?_
      rw [hg]; simpa [recsOf] using hx
theorem LogIn.segsOk {S : LogS} (h : LogIn S) : SegsOk (segsN S.D.now.length) S.c.segs := ⟨h.ok.n0, h.nd, fun x hx => ⟨h.lt x hx, (h.ok.x x hx).2⟩⟩
/-- Opened again. -/
theorem DiskIn.nb {S : LogS} {gs : List Gr} (h : DiskIn S gs) (hS : LogIn S) (hf : S.c.nb.fit) : DiskIn (saveM S S.c.nb) gs :=
  h.save hS hf (by simp only [Ck.nb]; omega) rfl h.segs hS.segsOk h.at' h.rise h.lt
/-- A segment more. -/
theorem DiskIn.more {S : LogS} {gs : List Gr} (h : DiskIn S gs) (hS : LogIn S) {id : Nat} (hl : leastF S.c (segsN S.D.now.length) = some id) (hf : (S.c.nextWith (S.c.segs ++ [(id, 0)])).fit) : DiskIn (saveM S (S.c.nextWith (S.c.segs ++ [(id, 0)]))) (gs ++ [(id, [])]) := by
  have hid := leastF_lt hl
  have hfree := free_not_mem (leastF_free hl)
  have hrec : recsOf (gs ++ [(id, [])]) = recsOf gs := by simp [recsOf]
  refine h.save hS hf (by simp only [Ck.nextWith]; omega) rfl (by simp only [Ck.nextWith]; rw [h.segs, segsOf_append]; rfl) ?_ ?_ (by rw [hrec]; exact h.rise) (by rw [hrec]; exact h.lt)
  · refine ⟨by simp [Ck.nextWith], ?_, fun x hx => ?_⟩
    · simp only [ids, Ck.nextWith, List.map_append, List.map_cons, List.map_nil]
      rw [List.nodup_append]
      refine ⟨hS.nd, by simp, ?_⟩
      intro a ha b hb
      simp only [List.mem_singleton] at hb
      subst hb
      intro e
      exact hfree (e ▸ ha)
    · simp only [Ck.nextWith, List.mem_append, List.mem_singleton] at hx
      rcases hx with hx | rfl
      · exact hS.segsOk.x x hx
      · exact ⟨hid, by simp⟩
  · intro g hg
    rcases List.mem_append.1 hg with hg | hg
    · exact h.at' g hg
    · obtain rfl := List.mem_singleton.1 hg
      exact ⟨trivial, by simp [sz]⟩
theorem recs_erase : ∀ (gs : List Gr) (j : Nat), (recsOf (gs.eraseIdx j)).Sublist (recsOf gs)
  | [], j => by simp [recsOf]
  | g :: gs, 0 => by
    show (recsOf gs).Sublist (g.2 ++ recsOf gs)
    exact List.sublist_append_right _ _
  | g :: gs, j + 1 => by
    show (g.2 ++ recsOf (gs.eraseIdx j)).Sublist (g.2 ++ recsOf gs)
    exact List.Sublist.append_left (recs_erase gs j) _
theorem segs_erase : ∀ (gs : List Gr) (j : Nat), (segsOf gs).eraseIdx j = segsOf (gs.eraseIdx j)
  | [], j => by simp [segsOf]
  | g :: gs, 0 => rfl
  | g :: gs, j + 1 => by
    show (g.1, sz g.2) :: (segsOf gs).eraseIdx j = (g.1, sz g.2) :: segsOf (gs.eraseIdx j)
    rw [segs_erase]
/-- A segment less. -/
theorem DiskIn.less {S : LogS} {gs : List Gr} (h : DiskIn S gs) (hS : LogIn S) {j : Nat} (hj : j + 1 < gs.length) (hf : (S.c.nextWith (S.c.segs.eraseIdx j)).fit) : DiskIn (saveM S (S.c.nextWith (S.c.segs.eraseIdx j))) (gs.eraseIdx j) := by
  have hsub : ∀ g ∈ gs.eraseIdx j, g ∈ gs := fun g hg => List.mem_of_mem_eraseIdx hg
  have hlen : S.c.segs.length = gs.length := by rw [h.segs]; simp [segsOf]
  have hrs := recs_erase gs j
  refine h.save hS hf (by simp only [Ck.nextWith]; omega) rfl (by simp only [Ck.nextWith]; rw [h.segs, segs_erase]) ?_ (fun g hg => h.at' g (hsub g hg)) ?_ (fun x hx => h.lt x (hrs.mem hx))
  · have hle := List.length_eraseIdx_of_lt (l := S.c.segs) (i := j) (by omega)
    refine ⟨by simp only [Ck.nextWith]; omega, ?_, fun x hx => hS.segsOk.x x (List.mem_of_mem_eraseIdx hx)⟩
    simp only [ids, Ck.nextWith]
    exact hS.nd.sublist ((List.eraseIdx_sublist _ _).map _)
  · unfold Rise
    exact h.rise.sublist (List.Sublist.map _ (hrs.map _))
theorem DiskIn.lst {S : LogS} {pre : List Gr} {id : Nat} {l : List BR} (h : DiskIn S (pre ++ [(id, l)])) : S.c.lst = (id, sz l) := by
  have : S.c = ⟨S.c.serial, S.c.boot, S.c.seq, segsOf pre ++ [(id, sz l)]⟩ := by
    have := h.segs
    rw [segsOf_append] at this
    show S.c = ⟨S.c.serial, S.c.boot, S.c.seq, segsOf pre ++ segsOf [(id, l)]⟩
    rw [← this]
  rw [this]; exact lst_app _ _ _ _ _
theorem appendS_now (S : LogS) (s : List UInt8) : (appendS S s).D.now = (putParts S.D (2 + 16 * S.c.lst.1 + S.c.lst.2) S.c.boot S.c.seq (partsZ s.length).toNat s (partsZ s.length).toNat).now := by simp only [appendS, DiskS.flush]
theorem sz_snoc (l : List BR) (x : BR) : sz (l ++ [x]) = sz l + np x.2 := by rw [sz_append]; simp [sz]
theorem appendS_c (S : LogS) (s : List UInt8) : (appendS S s).c = S.c.more (partsZ s.length).toNat := by simp only [appendS]
theorem Row.add {boot : Nat} {r : RecS} : ∀ {l : List BR} {q : Nat}, Row boot q l → r.seq = q + l.length → Row boot q (l ++ [(boot, r)])
  | [], q, _, h => ⟨rfl, by simpa using h, trivial⟩
  | x :: l, q, ⟨h1, h2, h3⟩, h => ⟨h1, h2, h3.add (by rw [h, List.length_cons]; omega)⟩
/-- A record more. -/
theorem DiskIn.append {S : LogS} {pre : List Gr} {id : Nat} {l : List BR} (h : DiskIn S (pre ++ [(id, l)])) (hS : LogIn S) {s : List UInt8} (hs : s.length ≤ 3728) (hf : (S.c.lst.2 : Int) + partsZ s.length ≤ 16) (hq : S.c.seq < 1152921504606846976) :
    DiskIn (appendS S s) (pre ++ [(id, l ++ [(S.c.boot, ⟨S.c.seq, S.c.lst.1, s⟩)])]) := by
  have hlst := h.lst
  obtain ⟨r, hr⟩ : ∃ r : RecS, (⟨S.c.seq, S.c.lst.1, s⟩ : RecS) = r := ⟨_, rfl⟩
  have hrb : r.body = s := by rw [← hr]
  have hrq : r.seq = S.c.seq := by rw [← hr]
  have hrs : r.seg = id := by rw [← hr, hlst]
  rw [hr]
  have hnp : (partsZ s.length).toNat = np r := by unfold np; rw [hrb]
  have hpr := np_of r (by rw [hrb]; exact hs)
  have hgl := h.at' (id, l) (by simp)
  dsimp only at hgl
  have hu : sz l + np r ≤ 16 := by rw [hlst] at hf; dsimp only at hf; rw [← hnp]; omega
  have hlx := hS.ok.lx
  rw [hlst] at hlx
  dsimp only at hlx
  have hok : RecOk (S.c.boot, r) := ⟨hS.ok.b, by show r.seq ≤ _; omega, by show r.body.length ≤ _; rw [hrb]; exact hs⟩
  obtain ⟨S', hS'⟩ : ∃ S', appendS S s = S' := ⟨_, rfl⟩
  have ed : S'.c = ⟨S.c.serial, S.c.boot, S.c.seq + 1, segsOf pre ++ [(id, sz l + np r)]⟩ := by
    rw [← hS']
    have hc : S.c = ⟨S.c.serial, S.c.boot, S.c.seq, segsOf pre ++ [(id, sz l)]⟩ := by
      have := h.segs
      rw [segsOf_append] at this
      show S.c = ⟨S.c.serial, S.c.boot, S.c.seq, segsOf pre ++ segsOf [(id, l)]⟩
      rw [← this]
    rw [appendS_c, hc, hnp]; exact more_app _ _ _ _ _ _
  have hsec : ∀ i, sec S'.D.now i = if 2 + 16 * id + sz l ≤ i ∧ i < 2 + 16 * id + sz l + np r then full (partB S.c.boot S.c.seq (i - (2 + 16 * id + sz l)) (np r) (chunkOf s (i - (2 + 16 * id + sz l)))) else sec S.D.now i := by
    intro i
    rw [← hS', appendS_now, hlst, hnp]
    have := putParts_sec (D := S.D) (base := 2 + 16 * id + sz l) (boot := S.c.boot) (seq := S.c.seq) (of := np r) (s := s) (np r) (by omega) i
    exact this
  have hlen : S'.D.now.length = S.D.now.length := by rw [← hS']; exact putParts_flush_len _ _ _ _ _ _ _
  have epl : S'.pl = S.pl := by rw [← hS']; rfl
  rw [hS']
  have hlow : ∀ i, i < 2 → sec S'.D.now i = sec S.D.now i := fun i hi => by rw [hsec, if_neg (by omega)]
  have hrecs : recsOf (pre ++ [(id, l ++ [(S.c.boot, r)])]) = recsOf (pre ++ [(id, l)]) ++ [(S.c.boot, r)] := by simp [recsOf]
  have hnd : (ids S.c.segs).Nodup := hS.nd
  have hidne : ∀ g ∈ pre, g.1 ≠ id := by
    intro g hg e
    rw [h.segs, segsOf_append] at hnd
    simp only [ids, List.map_append] at hnd
    rw [List.nodup_append] at hnd
    exact hnd.2.2 g.1 (List.mem_map_of_mem (f := (·.1)) (List.mem_map_of_mem (f := fun g : Gr => (g.1, sz g.2)) hg)) id (by simp [segsOf]) e
  refine ⟨?_, ?_, ?_, ?_, ?_, ?_, ?_⟩
  · rw [ed, segsOf_append]
    show _ = segsOf pre ++ [(id, sz (l ++ [(S.c.boot, r)]))]
    rw [sz_snoc]
  · intro g hg
    rcases List.mem_append.1 hg with hg | hg
    · have := h.at' g (List.mem_append_left _ hg)
      refine ⟨this.1.to fun k _ hk => ?_, this.2⟩
      rw [hsec, if_neg]
      have := hidne g hg
      omega
    · obtain rfl := List.mem_singleton.1 hg
      dsimp only
      refine ⟨SegAt.append.2 ⟨hgl.1.to fun k _ hk => ?_, hok, hrs, fun k hk => ?_, trivial⟩, by rw [sz_snoc]; exact hu⟩
      · rw [hsec, if_neg (by omega)]
      · dsimp only at hk
        rw [Nat.zero_add, hsec, if_pos (by omega), show 2 + 16 * id + sz l + k - (2 + 16 * id + sz l) = k by omega]
        dsimp only
        rw [hrb, hrq]
  · rw [hrecs, List.map_append]
    unfold Rise
    rw [List.map_append, List.pairwise_append]
    refine ⟨h.rise, by simp, ?_⟩
    intro a ha b hb
    simp only [List.map_cons, List.map_nil, List.mem_singleton] at hb
    subst hb
    obtain ⟨y, hy, rfl⟩ := List.mem_map.1 ha
    obtain ⟨z, hz, rfl⟩ := List.mem_map.1 hy
    rw [hrq]; exact h.lt z hz
  · rw [ed, hrecs]
    intro x hx
    rcases List.mem_append.1 hx with hx | hx
    · have := h.lt x hx
      dsimp only; omega
    · obtain rfl := List.mem_singleton.1 hx
      dsimp only; omega
  · intro i hi p hp
    rw [ed]
    rw [hsec] at hp
    split at hp
    · rename_i hin
      rw [ptOf_partB hS.ok.b hS.ok.q (by omega) hpr.2.1 (chunk_len _ _)] at hp
      rw [← Option.some.inj hp]
      dsimp only; omega
    · have := h.stale i hi p hp
      dsimp only; omega
  · intro c' hc'
    have hpl := hS.ok.pl
    rw [epl, hlow _ (by omega), hlen] at hc'
    rw [ed]; exact h.other c' hc'
  · obtain ⟨c0, pre0, id0, l0, l1, e1, e2, e3, e4, e5, e6, e7, e8⟩ := h.ck
    have hpl := hS.ok.pl
    obtain ⟨ep, eg⟩ := List.append_inj' e1 rfl
    obtain ⟨rfl, rfl⟩ : id = id0 ∧ l = l0 ++ l1 := by simpa using eg
    subst ep
    refine ⟨c0, pre, id, l0, l1 ++ [(S.c.boot, r)], by rw [List.append_assoc], ?_, by rw [ed]; exact e3, by rw [ed]; exact e4, e5, by rw [ed]; simp only [List.length_append, List.length_singleton]; omega, by rw [ed]; exact e7.add (by rw [hrq]; exact e6.symm), e8⟩
    rw [epl, hlow _ (by omega), hlen]; exact e2
/-! ### The beginning -/
theorem fmt_now (n : Nat) : (formatM (DiskS.new n)).now = ((List.replicate n ([] : List UInt8)).set 1 []).set 0 (ckB ck0) := rfl
theorem fmt_sec {n : Nat} (hn : 2 ≤ n) (i : Nat) : sec (formatM (DiskS.new n)).now i = if 0 = i then full (ckB ck0) else full [] := by
  rw [fmt_now, sec_set (by simp; omega)]
  split
  · rfl
  · rw [sec_set (by simp; omega)]
    split
    · rfl
    · unfold sec
      congr 1
      rw [List.getD_eq_getElem?_getD, List.getElem?_replicate]
      split <;> rfl
def fmtS (n : Nat) : LogS := ⟨ck0, 0, formatM (DiskS.new n)⟩
theorem fmt_len (n : Nat) : (formatM (DiskS.new n)).now.length = n := by rw [fmt_now]; simp
theorem ck0_segsOk {segs : Nat} (h : 4 ≤ segs) : SegsOk segs ck0.segs := ⟨by decide, by decide, fun x hx => by simp only [ck0, List.mem_singleton] at hx; subst hx; exact ⟨by dsimp only; omega, by decide⟩⟩
theorem fmt_in {n : Nat} (h1 : 66 ≤ n) (h2 : n ≤ 1026) : LogIn (fmtS n) ∧ DiskIn (fmtS n) [(0, [])] := by
  obtain ⟨g1, g2, g3⟩ := format_good (good_new h2) (by simp [DiskS.new]) (by simp [DiskS.new]; omega)
  have hsg : 4 ≤ segsN n := by unfold segsN; omega
  have hl := fmt_len n
  refine ⟨⟨⟨g1, by simp [fmtS], by simp [fmtS, ck0], by simp [fmtS, ck0], by simp [fmtS, ck0], by simp [fmtS, ck0], by simp [fmtS, ck0], by show 66 ≤ (formatM (DiskS.new n)).now.length; omega, fun x hx => ?_⟩, g3, by simp [fmtS, ck0, ids], fun x hx => ?_, rfl⟩, ?_⟩
  · simp only [fmtS, ck0, List.mem_singleton] at hx; subst hx
    show 18 + 16 * 0 ≤ (formatM (DiskS.new n)).now.length ∧ _
    exact ⟨by omega, by decide⟩
  · simp only [fmtS, ck0, List.mem_singleton] at hx; subst hx
    show 0 < segsN (formatM (DiskS.new n)).now.length
    rw [hl]; omega
  · have hs : ∀ i, sec (fmtS n).D.now i = if 0 = i then full (ckB ck0) else full [] := fmt_sec (by omega)
    have hln : (fmtS n).D.now.length = n := hl
    refine ⟨rfl, fun g hg => ?_, by simp [recsOf, Rise], by simp [recsOf], fun i hi p hp => ?_, fun c' hc' => ?_, ck0, [], 0, [], [], rfl, ?_, rfl, rfl, rfl, rfl, trivial, by simp [recsOf]⟩
    · obtain rfl := List.mem_singleton.1 hg
      exact ⟨trivial, by simp [sz]⟩
    · rw [hs, if_neg (by omega), ptOf_zero] at hp; cases hp
    · rw [hs, if_neg (by simp [fmtS]), ckOf_zero] at hc'; cases hc'
    · rw [hs, if_pos (by simp [fmtS]), hln]
      exact ckOf_ckB (segsN_le n) (by decide) (ck0_segsOk hsg)
end Go.Proofs.YthlfbndanknnmaaDoor
