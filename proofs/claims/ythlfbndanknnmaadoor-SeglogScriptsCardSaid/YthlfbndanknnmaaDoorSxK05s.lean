/-
  Package seglog: the disk bears the log. Printed by mk.py out of spec_k05s.py.
-/
import Derived.Test.YthlfbndanknnmaaDoorSxK05r
namespace Go.Proofs.YthlfbndanknnmaaDoor
open Go Go.Sx

/-- How many parts a record has. -/
def np (r : RecS) : Nat := (partsZ r.body.length).toNat
theorem np_of (r : RecS) (h : r.body.length ≤ 3728) : 1 ≤ np r ∧ np r ≤ 16 ∧ r.body.length ≤ 233 * np r := by
  have := partsZ_ge r.body.length
  have h2 : partsZ (r.body.length : Int) ≤ 16 := by unfold partsZ; omega
  unfold np; omega
def chunkOf (s : List UInt8) (k : Nat) : List UInt8 := (s.drop (233 * k)).take 233
/-- A record's sectors. -/
def Whole (now : List (List UInt8)) (base boot : Nat) (r : RecS) : Prop := ∀ k, k < np r → sec now (base + k) = full (partB boot r.seq k (np r) (chunkOf r.body k))
abbrev BR := Nat × RecS
structure RecOk (x : BR) : Prop where
  b : x.1 ≤ 1152921504606846976
  q : x.2.seq ≤ 1152921504606846976
  l : x.2.body.length ≤ 3728
theorem chunk_len (s : List UInt8) (k : Nat) : (chunkOf s k).length ≤ 233 := by unfold chunkOf; rw [List.length_take]; omega
theorem Whole.pt {now : List (List UInt8)} {base : Nat} {x : BR} (h : Whole now base x.1 x.2) (ho : RecOk x) {k : Nat} (hk : k < np x.2) : ptOf (sec now (base + k)) = some ⟨x.1, x.2.seq, k, np x.2, chunkOf x.2.body k⟩ := by
  rw [h k hk]
  exact ptOf_partB ho.b ho.q hk (np_of x.2 ho.l).2.1 (chunk_len _ _)
theorem take_chunk (s : List UInt8) (k : Nat) : s.take (233 * k) ++ chunkOf s k = s.take (233 * (k + 1)) := by
  unfold chunkOf
  rw [show 233 * (k + 1) = 233 * k + 233 by omega, List.take_add]
theorem recGo_whole {now : List (List UInt8)} {base room : Nat} {x : BR} (h : Whole now base x.1 x.2) (ho : RecOk x) (hr : np x.2 ≤ room) : ∀ (todo k : Nat), k + todo = np x.2 → recGo now base room ⟨x.1, x.2.seq, 0, np x.2, chunkOf x.2.body 0⟩ todo k (x.2.body.take (233 * k)) = some x.2.body
  | 0, k, hk => by
    rw [recGo, List.take_of_length_le]
    have := (np_of x.2 ho.l).2.2
    rw [show k = np x.2 by omega]; exact this
  | todo + 1, k, hk => by
    rw [recGo, if_neg (by omega), h.pt ho (by omega)]
    dsimp only
    rw [if_pos ⟨rfl, rfl, rfl, rfl⟩, take_chunk]
    exact recGo_whole h ho hr todo (k + 1) (by omega)
theorem recOf_whole {now : List (List UInt8)} {base room : Nat} {x : BR} (h : Whole now base x.1 x.2) (ho : RecOk x) (hr : np x.2 ≤ room) : recOf now base room = some (⟨x.1, x.2.seq, 0, np x.2, chunkOf x.2.body 0⟩, x.2.body) := by
  have hn := np_of x.2 ho.l
  have h0 := h.pt ho (k := 0) (by omega)
  rw [Nat.add_zero] at h0
  unfold recOf
  rw [if_neg (by omega), h0, Option.bind_some]
  dsimp only
  have := recGo_whole h ho hr (np x.2) 0 (by omega)
  rw [Nat.mul_zero, List.take_zero] at this
  rw [this]; rfl
/-! ### A segment's records -/
def sz (l : List BR) : Nat := (l.map fun x => np x.2).sum
def SegAt (now : List (List UInt8)) (id : Nat) : Nat → List BR → Prop
  | _, [] => True
  | at_, x :: l => RecOk x ∧ x.2.seg = id ∧ Whole now (2 + 16 * id + at_) x.1 x.2 ∧ SegAt now id (at_ + np x.2) l
theorem sz_cons (x : BR) (l : List BR) : sz (x :: l) = np x.2 + sz l := by simp [sz]
theorem sz_append (l m : List BR) : sz (l ++ m) = sz l + sz m := by simp [sz]
theorem SegAt.append {now : List (List UInt8)} {id : Nat} : ∀ {l m : List BR} {at_ : Nat}, SegAt now id at_ (l ++ m) ↔ SegAt now id at_ l ∧ SegAt now id (at_ + sz l) m
  | [], m, at_ => by simp [SegAt, sz]
  | x :: l, m, at_ => by
    simp only [List.cons_append, SegAt, SegAt.append (l := l), sz_cons, Nat.add_assoc, and_assoc]
/-- Other sectors turned. -/
theorem SegAt.to {now now' : List (List UInt8)} {id : Nat} : ∀ {l : List BR} {at_ : Nat}, (∀ k, at_ ≤ k → k < at_ + sz l → sec now' (2 + 16 * id + k) = sec now (2 + 16 * id + k)) → SegAt now id at_ l → SegAt now' id at_ l
  | [], _, _, _ => trivial
  | x :: l, at_, h, ⟨a, b, c, d⟩ => by
    rw [sz_cons] at h
    refine ⟨a, b, fun k hk => ?_, d.to fun k h1 h2 => h k (by omega) (by omega)⟩
    rw [Nat.add_assoc, h _ (by omega) (by omega), ← Nat.add_assoc]; exact c k hk
theorem SegAt.ok {now : List (List UInt8)} {id : Nat} : ∀ {l : List BR} {at_ : Nat}, SegAt now id at_ l → ∀ x ∈ l, RecOk x ∧ x.2.seg = id
  | y :: l, at_, ⟨a, b, c, d⟩, x, hx => by
    rcases List.mem_cons.1 hx with rfl | hx
    · exact ⟨a, b⟩
    · exact d.ok x hx
/-- Numbers that rise. -/
def Rise (l : List RecS) : Prop := (l.map (·.seq)).Pairwise (· < ·)
theorem behind_no {out : List RecS} {r : RecS} (h : Rise (out ++ [r])) : behind out r.seq = false := by
  unfold behind
  split
  · rename_i y hy
    have hm := List.mem_of_getLast? hy
    unfold Rise at h
    rw [List.map_append, List.pairwise_append] at h
    have := h.2.2 y.seq (List.mem_map_of_mem hm) r.seq (by simp)
    simp; omega
  · rfl
theorem Rise.left {l m : List RecS} (h : Rise (l ++ m)) : Rise l := by
  unfold Rise at *; rw [List.map_append, List.pairwise_append] at h; exact h.1
theorem knownSeg_read {now : List (List UInt8)} {seq id used : Nat} : ∀ (l : List BR) (n at_ : Nat) (out : List RecS), SegAt now id at_ l → at_ + sz l = used → l.length < n → Rise (out ++ l.map (·.2)) → (∀ x ∈ l, x.2.seq < seq) → knownSeg now seq id used n at_ out = some (out ++ l.map (·.2))
  | [], n + 1, at_, out, _, hu, _, _, _ => by
    rw [knownSeg, if_pos (by simp [sz] at hu; omega)]; simp
  | x :: l, n + 1, at_, out, ⟨a, b, c, d⟩, hu, hn, hr, hl => by
    rw [sz_cons] at hu
    have hnp := np_of x.2 a.l
    have hsplit : out ++ (x :: l).map (·.2) = (out ++ [x.2]) ++ l.map (·.2) := by simp
    rw [hsplit] at hr ⊢
    rw [knownSeg, if_neg (by omega), recOf_whole c a (by omega)]
    dsimp only
    have hx := hl x (List.mem_cons_self ..)
    rw [if_neg (by
      rw [behind_no hr.left]
      rintro (h | h)
      · omega
      · cases h)]
    have e : (⟨x.2.seq, id, x.2.body⟩ : RecS) = x.2 := by rw [← b]
    rw [e]
    exact knownSeg_read l n (at_ + np x.2) (out ++ [x.2]) d (by omega) (by simpa using hn) hr (fun y hy => hl y (List.mem_cons_of_mem _ hy))
theorem len_le_sz {now : List (List UInt8)} {id : Nat} : ∀ {l : List BR} {at_ : Nat}, SegAt now id at_ l → l.length ≤ sz l
  | [], _, _ => by simp [sz]
  | x :: l, at_, ⟨a, b, c, d⟩ => by
    have := len_le_sz d
    have := np_of x.2 a.l
    rw [sz_cons, List.length_cons]; omega
abbrev Gr := Nat × List BR
def segsOf (gs : List Gr) : List (Nat × Nat) := gs.map fun g => (g.1, sz g.2)
def recsOf (gs : List Gr) : List BR := gs.flatMap (·.2)
theorem knownAll_read {now : List (List UInt8)} {seq : Nat} : ∀ (gs : List Gr) (out : List RecS), (∀ g ∈ gs, SegAt now g.1 0 g.2 ∧ sz g.2 ≤ 16) → Rise (out ++ (recsOf gs).map (·.2)) → (∀ x ∈ recsOf gs, x.2.seq < seq) → knownAll now seq (segsOf gs) out = some (out ++ (recsOf gs).map (·.2))
  | [], out, _, _, _ => by simp [segsOf, recsOf, knownAll]
  | g :: gs, out, hg, hr, hl => by
    obtain ⟨h1, h2⟩ := hg g (List.mem_cons_self ..)
    have e : recsOf (g :: gs) = g.2 ++ recsOf gs := rfl
    rw [e, List.map_append, ← List.append_assoc] at hr ⊢
    rw [show segsOf (g :: gs) = (g.1, sz g.2) :: segsOf gs from rfl, knownAll, knownSeg_read g.2 17 0 out h1 (by simp) (by have := len_le_sz h1; omega) hr.left (fun x hx => hl x (by rw [e]; exact List.mem_append_left _ hx)), Option.bind_some]
    exact knownAll_read gs _ (fun g' hg' => hg g' (List.mem_cons_of_mem _ hg')) hr (fun x hx => hl x (by rw [e]; exact List.mem_append_right _ hx))
/-! ### What stands behind the checkpoint -/
theorem segsOf_append (a b : List Gr) : segsOf (a ++ b) = segsOf a ++ segsOf b := by simp [segsOf]
theorem lst_app (serial boot seq : Nat) (a : List (Nat × Nat)) (x : Nat × Nat) : (⟨serial, boot, seq, a ++ [x]⟩ : Ck).lst = x := by
  simp [Ck.lst]
theorem more_app (serial boot seq : Nat) (a : List (Nat × Nat)) (x : Nat × Nat) (n : Nat) : (⟨serial, boot, seq, a ++ [x]⟩ : Ck).more n = ⟨serial, boot, seq + 1, a ++ [(x.1, x.2 + n)]⟩ := by
  unfold Ck.more
  rw [lst_app]
  simp only [List.length_append, List.length_singleton, Nat.add_sub_cancel]
  rw [List.set_append_right _ _ (Nat.le_refl _)]
  simp
/-- Records one behind the other by their numbers. -/
def Row (boot : Nat) : Nat → List BR → Prop
  | _, [] => True
  | q, x :: l => x.1 = boot ∧ x.2.seq = q ∧ Row boot (q + 1) l
theorem furM_read {now : List (List UInt8)} {serial boot id : Nat} {a : List (Nat × Nat)} : ∀ (l : List BR) (n u q : Nat) (out : List RecS), SegAt now id u l → Row boot q l → u + sz l ≤ 16 → l.length < n → q + l.length ≤ 1152921504606846976 →
    (∀ i, 2 ≤ i → ∀ p, ptOf (sec now i) = some p → p.seq < q + l.length) → furM now n ⟨serial, boot, q, a ++ [(id, u)]⟩ out = (⟨serial, boot, q + l.length, a ++ [(id, u + sz l)]⟩, out ++ l.map (·.2))
  | [], n + 1, u, q, out, _, _, hu, _, hq, hst => by
    have hz : sz [] = 0 := rfl
    rw [hz] at hu ⊢
    rw [furM]
    split
    · simp
    · rw [lst_app]
      split
      · simp
      · rename_i p b hp
        rw [if_neg]
        · simp
        · rintro ⟨_, h2⟩
          have : ptOf (sec now (2 + 16 * id + u)) = some p := by
            unfold recOf at hp
            split at hp; cases hp
            cases hq2 : ptOf (sec now (2 + 16 * id + u)) with
            | none => rw [hq2] at hp; cases hp
            | some p0 =>
              rw [hq2, Option.bind_some] at hp
              dsimp only at hp
              cases hg : recGo now (2 + 16 * id + u) (16 - u) p0 p0.of 0 [] with
              | none => rw [hg] at hp; cases hp
              | some y => rw [hg] at hp; cases hp; rfl
          have h3 := hst (2 + 16 * id + u) (by omega) p this
          dsimp only at h2
          simp at h3; omega
  | x :: l, n + 1, u, q, out, ⟨a1, b1, c1, d1⟩, ⟨r1, r2, r3⟩, hu, hn, hq, hst => by
    rw [sz_cons] at hu ⊢
    simp only [List.length_cons] at hn hq hst ⊢
    rw [furM, if_neg (by dsimp only; omega), lst_app]
    dsimp only
    rw [recOf_whole c1 a1 (by omega)]
    dsimp only
    rw [if_pos ⟨r1, r2⟩, more_app]
    have e : (⟨x.2.seq, id, x.2.body⟩ : RecS) = x.2 := by rw [← b1]
    rw [e, furM_read l n (u + np x.2) (q + 1) (out ++ [x.2]) d1 r3 (by omega) (by omega) (by omega) (fun i hi p hp => by have := hst i hi p hp; omega)]
    have e1 : q + 1 + l.length = q + (l.length + 1) := by omega
    have e2 : u + np x.2 + sz l = u + (np x.2 + sz l) := by omega
    rw [e1, e2, List.append_assoc]; rfl
/-! ### The disk bears the log -/
structure DiskIn (S : LogS) (gs : List Gr) : Prop where
  segs : S.c.segs = segsOf gs
  at' : ∀ g ∈ gs, SegAt S.D.now g.1 0 g.2 ∧ sz g.2 ≤ 16
  rise : Rise ((recsOf gs).map (·.2))
  lt : ∀ x ∈ recsOf gs, x.2.seq < S.c.seq
  stale : ∀ i, 2 ≤ i → ∀ p, ptOf (sec S.D.now i) = some p → p.seq < S.c.seq
  other : ∀ c', ckOf (sec S.D.now (1 - S.pl)) (segsN S.D.now.length) = some c' → c'.serial < S.c.serial
  ck : ∃ (c0 : Ck) (pre : List Gr) (id : Nat) (l0 l1 : List BR), gs = pre ++ [(id, l0 ++ l1)] ∧ ckOf (sec S.D.now S.pl) (segsN S.D.now.length) = some c0 ∧ c0.serial = S.c.serial ∧ c0.boot = S.c.boot ∧
    c0.segs = segsOf pre ++ [(id, sz l0)] ∧ c0.seq + l1.length = S.c.seq ∧ Row S.c.boot c0.seq l1 ∧ (∀ x ∈ recsOf pre ++ l0, x.2.seq < c0.seq)
theorem pickM_two {now : List (List UInt8)} {p : Nat} {c0 : Ck} (hp : p ≤ 1) (h : ckOf (sec now p) (segsN now.length) = some c0) (ho : ∀ c', ckOf (sec now (1 - p)) (segsN now.length) = some c' → c'.serial < c0.serial) : pickM now 2 = some (c0, p) := by
  rcases Nat.lt_or_ge 0 p with h0 | h0
  · obtain rfl : p = 1 := by omega
    simp only [Nat.sub_self] at ho
    rw [pickM, h]
    dsimp only
    cases hc : ckOf (sec now 0) (segsN now.length) with
    | none => rw [pickM, hc]; rfl
    | some c' =>
      rw [pickM, hc]
      have := ho c' hc
      simp [pickM, this]
  · obtain rfl : p = 0 := by omega
    have e1 : pickM now 1 = some (c0, 0) := by rw [pickM, h]; rfl
    rw [pickM, e1]
    cases hc : ckOf (sec now 1) (segsN now.length) with
    | none => rfl
    | some c' =>
      have := ho c' hc
      dsimp only
      rw [if_neg (by omega)]
/-- What is found when it is opened again. -/
theorem DiskIn.open {S : LogS} {gs : List Gr} (h : DiskIn S gs) (hS : LogIn S) (hs : S.c.serial < 1152921504606846976) (hb : S.c.boot < 1152921504606846976) (hq : S.c.seq < 1152921504606846976) :
    openL S.D = (0, some (saveM S S.c.nb, (recsOf gs).map (·.2))) := by
  obtain ⟨c0, pre, id, l0, l1, e1, e2, e3, e4, e5, e6, e7, e8⟩ := h.ck
  have hpk := pickM_two hS.ok.pl e2 (fun c' hc' => by rw [e3]; exact h.other c' hc')
  have hgl := h.at' (id, l0 ++ l1) (by rw [e1]; simp)
  have happ := SegAt.append.1 hgl.1
  have hsz := hgl.2
  dsimp only at happ hsz
  rw [sz_append] at hsz
  have hrec : recsOf gs = (recsOf pre ++ l0) ++ l1 := by rw [e1]; simp [recsOf]
  have hrise := h.rise
  rw [hrec, List.map_append] at hrise
  have hkn : knownAll S.D.now c0.seq c0.segs [] = some ((recsOf pre ++ l0).map (·.2)) := by
    have hpg : recsOf (pre ++ [(id, l0)]) = recsOf pre ++ l0 := by simp [recsOf]
    have := knownAll_read (now := S.D.now) (seq := c0.seq) (pre ++ [(id, l0)]) [] (by
      intro g hg
      rcases List.mem_append.1 hg with hg | hg
      · exact h.at' g (by rw [e1]; exact List.mem_append_left _ hg)
      · obtain rfl := List.mem_singleton.1 hg
        exact ⟨happ.1, by dsimp only; omega⟩) (by rw [hpg]; exact hrise.left) (by rw [hpg]; exact e8)
    rw [hpg, segsOf_append] at this
    rw [e5]; exact this
  have hfu : furM S.D.now 17 c0 ((recsOf pre ++ l0).map (·.2)) = (S.c, (recsOf gs).map (·.2)) := by
    have hlen : l1.length ≤ sz l1 := len_le_sz happ.2
    have := furM_read (now := S.D.now) (serial := c0.serial) (boot := S.c.boot) (id := id) (a := segsOf pre) l1 17 (sz l0) c0.seq ((recsOf pre ++ l0).map (·.2)) (by rw [Nat.zero_add] at happ; exact happ.2) e7 (by omega) (by omega) (by omega) (by rw [e6]; exact h.stale)
    have ec0 : (⟨c0.serial, S.c.boot, c0.seq, segsOf pre ++ [(id, sz l0)]⟩ : Ck) = c0 := by rw [← e4, ← e5]
    rw [ec0] at this
    have hm : ((recsOf pre ++ l0) ++ l1).map (·.2) = (recsOf pre ++ l0).map (·.2) ++ l1.map (·.2) := List.map_append
    rw [this, hrec, hm]
    congr 1
    rw [e6, e3]
    have : segsOf pre ++ [(id, sz l0 + sz l1)] = S.c.segs := by rw [h.segs, e1, segsOf_append, ← sz_append]; rfl
    rw [this]
  rw [openL_eq hpk hkn hfu]
  dsimp only
  rw [if_neg (by omega), if_pos ⟨by simp only [Ck.nb]; omega, by simp only [Ck.nb]; omega, by simp only [Ck.nb]; omega⟩]
end Go.Proofs.YthlfbndanknnmaaDoor
