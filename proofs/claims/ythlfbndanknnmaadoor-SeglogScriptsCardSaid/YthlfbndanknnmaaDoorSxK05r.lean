/-
  Package seglog: what is written is read again. Printed by mk.py out of spec_k05r.py.
-/
import Derived.Test.YthlfbndanknnmaaDoorSxK05p
namespace Go.Proofs.YthlfbndanknnmaaDoor
open Go Go.Sx

/-! ### Numbers -/
theorem numB_succ (n size : Nat) : numB n (size + 1) = numB (n / 256) size ++ [UInt8.ofNat n] := by
  unfold numB
  rw [List.range_succ, List.map_append]
  congr 1
  · apply List.map_congr_left
    intro i hi
    rw [List.mem_range] at hi
    rw [Nat.div_div_eq_div_mul]
    congr 2
    rw [show 8 * (size + 1 - 1 - i) = 8 + 8 * (size - 1 - i) by omega, Nat.pow_add]
  · simp
theorem val_one (l : List UInt8) (b : UInt8) : val (l ++ [b]) = val l * 256 + b.toNat := by
  unfold val; rw [List.foldl_append]; rfl
theorem val_numB : ∀ (size n : Nat), val (numB n size) = n % 256 ^ size
  | 0, n => by simp [numB, val, Nat.mod_one]
  | size + 1, n => by
    have e : n % 256 ^ (size + 1) = n % 256 + 256 * (n / 256 % 256 ^ size) := by rw [Nat.pow_succ, Nat.mul_comm (256 ^ size) 256, Nat.mod_mul]
    rw [numB_succ, val_one, val_numB size, UInt8.toNat_ofNat', e]
    show n / 256 % 256 ^ size * 256 + n % 256 = _
    omega
theorem numB_one (n : Nat) : numB n 1 = [UInt8.ofNat n] := by rw [numB_succ]; simp [numB]
theorem mid {α : Type} (a b r : List α) {i j : Nat} (hi : a.length = i) (hj : i + b.length = j) : ((a ++ (b ++ r)).take j).drop i = b := by
  subst hi; subst hj
  rw [← List.append_assoc, List.take_left' (by simp), List.drop_left]
theorem getD_mid {α : Type} (a b r : List α) (d : α) {i k : Nat} (hi : a.length = i) (hk : k < b.length) : (a ++ (b ++ r)).getD (i + k) d = b.getD k d := by
  subst hi
  simp only [List.getD_eq_getElem?_getD]
  rw [List.getElem?_append_right (by omega), show a.length + k - a.length = k by omega, List.getElem?_append_left hk]
theorem tk_numB (a r : List UInt8) (n size : Nat) {i j : Nat} (hi : a.length = i) (hj : i + size = j) (hs : size ≤ 8) (hn : n < 256 ^ size) (h60 : n ≤ 1152921504606846976) : tk (a ++ (numB n size ++ r)) i j = (n : Int) := by
  unfold tk
  rw [mid a (numB n size) r hi (by rw [numB_length]; exact hj), val_numB, Nat.mod_eq_of_lt hn, wrap_def]
  split <;> omega
theorem u8 {n : Nat} (h : n < 256) : (UInt8.ofNat n).toNat = n := by rw [UInt8.toNat_ofNat']; omega
/-! ### Checkpoints -/
theorem full_app (s : List UInt8) : full s = s ++ List.replicate (256 - s.length) 0 := rfl
theorem segB_at : ∀ (l : List (Nat × Nat)) (i : Nat) (h : i < l.length), (segB l).getD (2 * i) 0 = UInt8.ofNat (l[i]).1 ∧ (segB l).getD (2 * i + 1) 0 = UInt8.ofNat (l[i]).2
  | x :: l, 0, h => by simp [segB, numB_one]
  | x :: l, i + 1, h => by
    have := segB_at l i (by simpa using h)
    have e : segB (x :: l) = UInt8.ofNat x.1 :: UInt8.ofNat x.2 :: segB l := by simp [segB, numB_one]
    rw [e, show 2 * (i + 1) = 2 * i + 1 + 1 by omega, show 2 * i + 1 + 1 + 1 = (2 * i + 1) + 1 + 1 by omega]
    simpa using this
structure SegsOk (segs : Nat) (l : List (Nat × Nat)) : Prop where
  n1 : 1 ≤ l.length
  nd : (ids l).Nodup
  x : ∀ x ∈ l, x.1 < segs ∧ x.2 ≤ 16
theorem SegsOk.len {segs : Nat} {l : List (Nat × Nat)} (h : SegsOk segs l) : l.length ≤ segs := by
  have := nodup_len segs (ids l) h.nd (fun x hx => by
    obtain ⟨y, hy, rfl⟩ := List.mem_map.1 hx
    exact (h.x y hy).1)
  simpa [ids] using this
theorem ckSegs_read {s : List UInt8} {segs : Nat} {l : List (Nat × Nat)} (h64 : segs ≤ 64) (h : SegsOk segs l) (hs : ∀ k, k < (segB l).length → s.getD (26 + k) 0 = (segB l).getD k 0) : ∀ i, i ≤ l.length → ckSegs s segs i = some (l.take i)
  | 0, _ => by simp [ckSegs]
  | i + 1, hi => by
    have hil : i < l.length := by omega
    have hx := h.x _ (List.getElem_mem hil)
    have hsl := segB_length l
    have h1 := segB_at l i hil
    have b1 : s.getD (26 + 2 * i) 0 = UInt8.ofNat (l[i]).1 := by rw [hs _ (by omega), h1.1]
    have b2 : s.getD (27 + 2 * i) 0 = UInt8.ofNat (l[i]).2 := by rw [show 27 + 2 * i = 26 + (2 * i + 1) by omega, hs _ (by omega), h1.2]
    have c1 : bn s (26 + 2 * i) = (l[i]).1 := by unfold bn; rw [b1]; exact u8 (by omega)
    have c2 : bn s (27 + 2 * i) = (l[i]).2 := by unfold bn; rw [b2]; exact u8 (by omega)
    have d1 : byt s (26 + 2 * i) = ((l[i]).1 : Int) := by rw [← c1]; rfl
    have d2 : byt s (27 + 2 * i) = ((l[i]).2 : Int) := by rw [← c2]; rfl
    rw [ckSegs, ckSegs_read h64 h hs i (by omega), Option.bind_some, d1, d2, c1, c2, if_neg (by omega), if_neg (by omega), if_neg ?_, List.take_succ_eq_append_getElem hil]
    intro ha
    simp only [List.any_eq_true, decide_eq_true_eq] at ha
    obtain ⟨y, hy, he⟩ := ha
    have hnd := h.nd
    obtain ⟨j, hj, hjy⟩ := List.mem_take_iff_getElem.1 hy
    have := (List.pairwise_iff_getElem.1 hnd) j i (by simp [ids]; omega) (by simpa [ids] using hil) (by omega)
    simp only [ids, List.getElem_map] at this
    rw [hjy] at this
    omega
theorem ckOf_ckB {c : Ck} {segs : Nat} (h64 : segs ≤ 64) (hf : c.fit) (h : SegsOk segs c.segs) : ckOf (full (ckB c)) segs = some c := by
  obtain ⟨f1, f2, f3⟩ := hf
  have hl := h.len
  have hn1 := h.n1
  obtain ⟨z, hz⟩ : ∃ z, List.replicate (256 - (ckB c).length) (0 : UInt8) = z := ⟨_, rfl⟩
  have e : full (ckB c) = [67] ++ (numB c.serial 8 ++ (numB c.boot 8 ++ (numB c.seq 8 ++ (numB c.segs.length 1 ++ (segB c.segs ++ z))))) := by
    rw [full_app, hz]; simp [ckB, ckH]
  obtain ⟨s, hs⟩ : ∃ s, full (ckB c) = s := ⟨_, rfl⟩
  rw [hs] at e ⊢
  have t1 : tk s 1 9 = (c.serial : Int) := by rw [e]; exact tk_numB _ _ _ _ rfl rfl (by omega) (by omega) f1
  have t2 : tk s 9 17 = (c.boot : Int) := by
    rw [e, ← List.append_assoc]; exact tk_numB _ _ _ _ (by simp [numB_length]) rfl (by omega) (by omega) f2
  have t3 : tk s 17 25 = (c.seq : Int) := by
    rw [e, ← List.append_assoc, ← List.append_assoc]; exact tk_numB _ _ _ _ (by simp [numB_length]) rfl (by omega) (by omega) f3
  have e4 : s = ([67] ++ numB c.serial 8 ++ numB c.boot 8 ++ numB c.seq 8) ++ (numB c.segs.length 1 ++ (segB c.segs ++ z)) := by rw [e]; simp
  have b25 : s.getD 25 0 = UInt8.ofNat c.segs.length := by
    have := getD_mid ([67] ++ numB c.serial 8 ++ numB c.boot 8 ++ numB c.seq 8) (numB c.segs.length 1) (segB c.segs ++ z) 0 (i := 25) (k := 0) (by simp [numB_length]) (by simp [numB_length])
    rw [← e4] at this
    rw [this, numB_one]; rfl
  have n25 : bn s 25 = c.segs.length := by unfold bn; rw [b25]; exact u8 (by omega)
  have y25 : byt s 25 = (c.segs.length : Int) := by rw [← n25]; rfl
  have y0 : byt s 0 = 67 := by rw [e]; rfl
  have e5 : s = ([67] ++ numB c.serial 8 ++ numB c.boot 8 ++ numB c.seq 8 ++ numB c.segs.length 1) ++ (segB c.segs ++ z) := by rw [e]; simp
  have hsg : ckSegs s segs c.segs.length = some c.segs := by
    have := ckSegs_read (s := s) h64 h (fun k hk => by
      have := getD_mid ([67] ++ numB c.serial 8 ++ numB c.boot 8 ++ numB c.seq 8 ++ numB c.segs.length 1) (segB c.segs) z 0 (i := 26) (k := k) (by simp [numB_length]) hk
      rwa [← e5] at this) c.segs.length (Nat.le_refl _)
    rwa [List.take_of_length_le (Nat.le_refl _)] at this
  have hdrop : s.drop (26 + 2 * c.segs.length) = z := by
    rw [e5, ← List.append_assoc]
    exact List.drop_left' (by simp [numB_length, segB_length]; omega)
  unfold ckOf
  rw [y0, if_neg (by simp), t1, t2, t3, if_neg (by simp [fitsB]; omega), y25, if_neg (by omega), if_neg (by omega), n25, hsg]
  dsimp only
  rw [hdrop, if_neg (by
    rw [Decidable.not_not, trimB_nil, ← hz]
    intro x hx; exact (List.mem_replicate.1 hx).2)]
  simp
theorem ckOf_zero (segs : Nat) : ckOf (full []) segs = none := by unfold ckOf; rw [if_pos (by decide)]
theorem ptOf_zero : ptOf (full []) = none := by unfold ptOf; rw [if_pos (by decide)]
/-! ### Parts -/
theorem ptOf_partB {boot seq k of : Nat} {t : List UInt8} (hb : boot ≤ 1152921504606846976) (hq : seq ≤ 1152921504606846976) (hk : k < of) (hof : of ≤ 16) (ht : t.length ≤ 233) : ptOf (full (partB boot seq k of t)) = some ⟨boot, seq, k, of, t⟩ := by
  obtain ⟨z, hz⟩ : ∃ z, List.replicate (256 - (partB boot seq k of t).length) (0 : UInt8) = z := ⟨_, rfl⟩
  have e : full (partB boot seq k of t) = [82] ++ (numB boot 8 ++ (numB seq 8 ++ (numB k 2 ++ (numB of 2 ++ (numB t.length 2 ++ (t ++ z)))))) := by
    rw [full_app, hz]; simp [partB]
  obtain ⟨s, hs⟩ : ∃ s, full (partB boot seq k of t) = s := ⟨_, rfl⟩
  rw [hs] at e ⊢
  have t1 : tk s 1 9 = (boot : Int) := by rw [e]; exact tk_numB _ _ _ _ rfl rfl (by omega) (by omega) hb
  have t2 : tk s 9 17 = (seq : Int) := by
    rw [e, ← List.append_assoc]; exact tk_numB _ _ _ _ (by simp [numB_length]) rfl (by omega) (by omega) hq
  have t3 : tk s 17 19 = (k : Int) := by
    rw [e, ← List.append_assoc, ← List.append_assoc]; exact tk_numB _ _ _ _ (by simp [numB_length]) rfl (by omega) (by omega) (by omega)
  have t4 : tk s 19 21 = (of : Int) := by
    rw [e, ← List.append_assoc, ← List.append_assoc, ← List.append_assoc]; exact tk_numB _ _ _ _ (by simp [numB_length]) rfl (by omega) (by omega) (by omega)
  have t5 : tk s 21 23 = (t.length : Int) := by
    rw [e, ← List.append_assoc, ← List.append_assoc, ← List.append_assoc, ← List.append_assoc]; exact tk_numB _ _ _ _ (by simp [numB_length]) rfl (by omega) (by omega) (by omega)
  have t6 : (s.take (23 + t.length)).drop 23 = t := by
    rw [e, ← List.append_assoc, ← List.append_assoc, ← List.append_assoc, ← List.append_assoc, ← List.append_assoc]; exact mid _ _ _ (by simp [numB_length]) rfl
  have y0 : byt s 0 = 82 := by rw [e]; rfl
  unfold ptOf
  rw [y0, if_neg (by simp), t1, t2, t3, t4, t5, if_neg (by simp [fitsB]; omega), if_neg (by omega), if_neg (by omega), if_neg (by omega), if_neg (by omega)]
  simp only [Int.toNat_natCast, t6]
end Go.Proofs.YthlfbndanknnmaaDoor
