/-
  The calculus Sx, part 14: operations that read the old memory; windows of slices.
-/
import Derived.Test.YteeiccjglmehcaaGreatSx13
namespace Go.Sx
open Go

class AtOld (cs : List Chunk) (w0 : outParam World) : Prop where
  mem : ∃ r, Take1 cs (old w0) r
instance atOldS {c : Chunk} {cs : List Chunk} {w0 : World} [h : AtOld cs w0] : AtOld (c :: cs) w0 := ⟨let ⟨_, k⟩ := h.mem; ⟨_, tS k⟩⟩
instance atOld0 {cs : List Chunk} {w0 : World} : AtOld (old w0 :: cs) w0 := ⟨⟨_, t0⟩⟩
theorem cell_lt {w : World} {p : Addr} {v : Value} (h : w.cell? p = some v) : p.block < w.heap.size := by
  unfold World.cell? at h
  rcases Nat.lt_or_ge p.block w.heap.size with hl | hl
  · exact hl
  · rw [Array.getElem?_eq_none hl] at h; cases h
theorem AtOld.cell {cs : List Chunk} {w0 w : World} [h : AtOld cs w0] (hs : Sat cs w) {p : Addr} {v : Value} (hv : w0.cell? p = some v) : w.cell? p = some v := by
  obtain ⟨r, hr⟩ := h.mem
  have hb := old_below (hs.perm hr)
  have hl := cell_lt hv
  unfold World.cell? at hv ⊢
  rw [hb.block _ hl]; exact hv

section
variable {P : Program} {N : Nat} {Q : Exit → Act → World → Prop} {L : List (Nat × Value)} {cs cs' : List Chunk} {ops : Array Oper} {l : List Oper} {w0 : World}
variable {d : Nat} {ty : TypeId} {pos : String} {af : Array Edge} {g : Option (Nat × Bool)}
/-- '&s[i]' of a slice that came in. -/
theorem XL.ixO {t e : TypeId} {x i : Operand} {kd : IntKind} {n : Int} {sz by_ b o len cap : Nat} (j : Nat) (ht : elemI P t = some (e, sz, by_)) (hx : ev L x = some (.slice (some ⟨b, o, none⟩) len cap)) (hi : ev L i = some (.int kd n)) (hn : n = (j : Int)) (hj : j < len)
    (hc : chk ops L N d g = true) (k : XL P N ops Q l ((d, .pointer (some ⟨b, o + j * sz, none⟩)) :: L) cs) : XL P N ops Q (⟨some d, .indexAddr t x i, ty, pos, af, g⟩ :: l) L cs :=
  XL.stepP rfl hc (fun a w hm => by
    subst hn
    obtain ⟨hu, inf, hinf, hsz, _⟩ := elemI.run ht
    have h0 : (0 : Int) ≤ (j : Int) ∧ (j : Int) < (len : Int) := by omega
    simp only [execOp, hm.eval hx, hm.eval hi, Instr.indexAt, Sem.run_bind, asIntOf, Sem.run_pure, Result.andThen_ok, run_underlying hu]
    rw [if_pos h0]
    simp [sizeOf, typeInfo, hinf, hsz, add_none]) k
/-- A cell of the old memory. -/
theorem XL.ldO {t : TypeId} {x : Operand} {b o : Nat} {v : Value} (ht : one P t = true) (hx : ev L x = some (.pointer (some ⟨b, o, none⟩))) [h : AtOld cs w0] (hv : w0.cell? ⟨b, o, none⟩ = some v)
    (hc : chk ops L N d g = true) (k : XL P N ops Q l ((d, v) :: L) cs) : XL P N ops Q (⟨some d, .load t x, ty, pos, af, g⟩ :: l) L cs :=
  XL.stepV rfl hc (fun a w hm hs => ⟨w, by
    simp only [execOp, hm.eval hx]
    rw [Sem.run_bind, run_load1 ht (h.cell hs hv)]; rfl, hs⟩) k
/-- Some cells of the old memory. -/
theorem XL.ldOM {t : TypeId} {x : Operand} {b o n : Nat} {vs : List Value} (ht : aggN P t = some n) (hx : ev L x = some (.pointer (some ⟨b, o, none⟩))) [h : AtOld cs w0] (hn : vs.length = n) (hv : ∀ k u, vs[k]? = some u → w0.cell? ⟨b, o + k, none⟩ = some u)
    (hc : chk ops L N d g = true) (k : XL P N ops Q l ((d, .agg vs.toArray) :: L) cs) : XL P N ops Q (⟨some d, .load t x, ty, pos, af, g⟩ :: l) L cs :=
  XL.stepV rfl hc (fun a w hm hs => ⟨w, by
    simp only [execOp, hm.eval hx]
    rw [Sem.run_bind, run_loadN ht hn (fun j u hj => h.cell hs (hv j u hj))]; rfl, hs⟩) k

/-! ### Windows -/
/-- 'r' is 'n' elements of the slice 'v', from the 'a'-th on. -/
def Win (v r : Value) (sz a n : Nat) : Prop := (r = .slice none 0 0 ∧ n = 0) ∨ ∃ b n0 c0 off c, v = .slice (some ⟨b, 0, none⟩) n0 c0 ∧ r = .slice (some ⟨b, off, none⟩) n c ∧ (n = 0 ∨ off = a * sz)
variable {α : Type} {enc : α → List Value} {xs l1 : List α} {e : TypeId} {sz by_ by2 : Nat} {v v1 r : Value} {zs : List Value}
theorem Win.oneV {a n : Nat} (h : Win v r sz a n) : OneV r := by
  rcases h with ⟨rfl, _⟩ | ⟨b, n0, c0, off, c, _, rfl, _⟩ <;> exact ⟨rfl⟩
/-- 's[lo:hi]' of a slice of the call's own. -/
theorem XL.slV {t : TypeId} {x : Operand} {lo hi : Option Operand} (a h : Nat) (ht : elemI P t = some (e, sz, by_)) (hx : ev L x = some v) [hv : AtV cs v enc xs e sz]
    (hlo : match lo with | none => a = 0 | some y => ∃ kd, ev L y = some (.int kd (a : Int))) (hhi : match hi with | none => h = xs.length | some y => ∃ kd, ev L y = some (.int kd (h : Int)))
    (hah : a ≤ h) (hhl : h ≤ xs.length) (hz0 : Nat.blt 0 sz = true) (hc : chk ops L N d g = true) (k : ∀ r, OneV r → Win v r sz a (h - a) → XL P N ops Q l ((d, r) :: L) cs) :
    XL P N ops Q (⟨some d, .slice t x lo hi none, ty, pos, af, g⟩ :: l) L cs := by
  intro ac w hm hs
  obtain ⟨rr, hr⟩ := hv.mem
  obtain ⟨_, h2⟩ := sl_get (hs.perm hr)
  rcases h2 with ⟨rfl, rfl⟩ | ⟨b, cap, sp, rfl, _, _, hlen, _⟩
  · obtain rfl : h = 0 := by simpa using hhl
    obtain rfl : a = 0 := by omega
    refine XL.stepP (v := .slice none 0 0) rfl hc (fun ac w hm => ?_) (k _ ⟨rfl⟩ (.inl ⟨rfl, rfl⟩)) ac w hm hs
    obtain ⟨hu, inf, hinf, hsz, _⟩ := elemI.run ht
    have hB : ∀ (kd : IntKind) (y : Nat) (code : BoundsCode), (Instr.sliceBound (.int kd ((0 : Nat) : Int)) y code).run P w = .ok 0 w := by
      intro kd y code
      simp [Instr.sliceBound, asIntOf]
    have hbd : (Instr.sliceBounds true 0 0 (lo.map ac.eval) (hi.map ac.eval) none).run P w = .ok (0, 0, 0) w := by
      cases hi with
      | none =>
        cases lo with
        | none => simp [Instr.sliceBounds]
        | some z => obtain ⟨kz, hz⟩ := hlo; simp [Instr.sliceBounds, hm.eval hz]; rw [show (0 : Int) = ((0 : Nat) : Int) from rfl, hB]; simp
      | some y =>
        obtain ⟨kd, hk⟩ := hhi
        cases lo with
        | none => simp [Instr.sliceBounds, hm.eval hk]; rw [show (0 : Int) = ((0 : Nat) : Int) from rfl, hB]; simp
        | some z => obtain ⟨kz, hz⟩ := hlo; simp [Instr.sliceBounds, hm.eval hk, hm.eval hz]; rw [show (0 : Int) = ((0 : Nat) : Int) from rfl, hB]; simp; rw [show (0 : Int) = ((0 : Nat) : Int) from rfl, hB]; simp
    simp only [execOp, hm.eval hx, Instr.sliceAt, Sem.run_bind, run_underlying hu, Result.andThen_ok, Instr.slice, Option.map_none, hbd, sizeOf, typeInfo, Sem.run_pure]
    simp [hinf, hsz]
  · have hcap : xs.length ≤ cap := by
      have hf := flat_length xs (sl_get (hs.perm hr)).1
      rw [List.length_append, hf] at hlen
      have h0 : 0 < sz := by simp only [Nat.blt] at hz0; exact Nat.le_of_ble_eq_true hz0
      exact Nat.le_of_mul_le_mul_right (by omega) h0
    exact XL.slW a h cap ht hx hlo rfl (by cases hi <;> exact hhi) rfl hah (by omega) (Nat.le_refl _) hc (k _ ⟨rfl⟩ (.inr ⟨b, _, cap, _, _, rfl, rfl, by
      by_cases hca : cap = a
      · left; omega
      · right; rw [if_neg hca]; simp⟩)) ac w hm hs
/-- 'len' of a window. -/
theorem XL.lenX {t : TypeId} {x : Operand} {a n : Nat} {ei : TypeId × Nat × Nat} (ht : elemI P t = some ei) (hx : ev L x = some r) (hw : Win v r sz a n)
    (hc : chk ops L N d g = true) (k : XL P N ops Q l ((d, .int .i64 (n : Int)) :: L) cs) : XL P N ops Q (⟨some d, .call ⟨.builtin .len, #[x], #[t]⟩, ty, pos, af, g⟩ :: l) L cs := by
  obtain ⟨e', sz', by'⟩ := ei
  rcases hw with ⟨rfl, rfl⟩ | ⟨b, n0, c0, off, c, _, rfl, _⟩
  · exact XL.lenW ht hx hc k
  · exact XL.lenW ht hx hc k
/-- 'append(s, t[a:b]...)'. -/
theorem XL.appX {t t2 : TypeId} {x y : Operand} {a n : Nat} {v2 : Value} (ht : elemI P t = some (e, sz, by_)) (ht2 : elemI P t2 = some (e, sz, by2)) (hz : zeroC P e = some zs) (hzl : (Nat.beq zs.length sz && Nat.ble 1 by_) = true)
    (hx : ev L x = some v1) (hy : ev L y = some r) (hw : Win v2 r sz a n) [ho : OutV cs v1 enc l1 e sz cs'] [hv : AtV cs' v2 enc xs e sz] (hn : a + n ≤ xs.length) (h1 : ∀ x ∈ xs, (enc x).all oneC = true)
    (hroom : (2 * (l1.length + n) + 192) * by_ ≤ 281474976710656) (hc : chk ops L N d g = true) (k : ∀ v', OneV v' → XL P N ops Q l ((d, v') :: L) (sl v' enc (l1 ++ (xs.drop a).take n) e sz :: cs')) :
    XL P N ops Q (⟨some d, .call ⟨.builtin .append, #[x, y], #[t, t2]⟩, ty, pos, af, g⟩ :: l) L cs :=
  XL.stepS rfl hc (fun ac w hm hs => by
    simp only [Bool.and_eq_true] at hzl
    have hs1 := hs.perm ho.mem
    obtain ⟨rr, hr⟩ := hv.mem
    have hs2 : Sat (sl v2 enc xs e sz :: rr) w := (Sat.tail hs1).perm hr
    have hel := (sl_get hs2).1
    have hln : ((xs.drop a).take n).length = n := by simp; omega
    have hsub : ∀ y ∈ (xs.drop a).take n, y ∈ xs := fun y hy => List.mem_of_mem_drop (List.mem_of_mem_take hy)
    obtain ⟨v', w', q1, q2⟩ := run_append (P := P) (l2' := (xs.drop a).take n) (v2 := r) (n2 := n) (c2 := (((xs.drop a).take n).map enc).flatten) ht (.inl (elemI.run ht2).1) hz (Nat.eq_of_beq_eq_true hzl.1) (Nat.le_of_ble_eq_true hzl.2) (by rw [hln]; exact hroom) hln.symm rfl (fun y hy => hel y (hsub y hy))
      (by
        rw [List.all_eq_true]
        intro u hu
        obtain ⟨us, h3, h4⟩ := List.mem_flatten.1 hu
        obtain ⟨x, h5, rfl⟩ := List.mem_map.1 h3
        exact List.all_eq_true.1 (h1 x (hsub x h5)) u h4)
      (fun w' hw' => by
        rcases hw with ⟨rfl, rfl⟩ | ⟨b, n0, c0, off, c, _, rfl, _⟩ <;> simp [Builtin.lenOf])
      (fun w' hw' => by
        rcases hw with ⟨rfl, rfl⟩ | ⟨b, n0, c0, off, c, hv2, rfl, hoff⟩
        · simp [Builtin.firstCells]
        · rcases Nat.eq_zero_or_pos n with h0 | h0
          · subst h0
            simp [Builtin.firstCells, loadCells, loadCellsFrom]
          · rcases (sl_get hs2).2 with ⟨hnil, _⟩ | ⟨b', cap', sp, hv2', _, _, _, hh⟩
            · rw [hv2] at hnil; cases hnil
            · rw [hv2] at hv2'
              obtain ⟨rfl, _, _⟩ : b = b' ∧ n0 = xs.length ∧ c0 = cap' := by simpa using hv2'
              obtain rfl : off = a * sz := by omega
              have hfl := flat_length ((xs.drop a).take n) (fun y hy => hel y (hsub y hy))
              have := run_loadCellsFrom (P := P) (w := w') (b := b) (o := a * sz) ((((xs.drop a).take n).map enc).flatten) 0 #[] (fun j u hj => by
                rw [cell_at (by rw [hw']; exact hh)]
                have hsplit : (xs.map enc).flatten = ((xs.take a).map enc).flatten ++ ((((xs.drop a).take n).map enc).flatten ++ (((xs.drop a).drop n).map enc).flatten) := by
                  rw [← List.flatten_append, ← List.map_append, List.take_append_drop, ← List.flatten_append, ← List.map_append, List.take_append_drop]
                have hla := flat_length (xs.take a) (fun y hy => hel y (List.mem_of_mem_take hy))
                rw [List.length_take, Nat.min_eq_left (by omega)] at hla
                have hjl := (List.getElem?_eq_some_iff.1 hj).1
                simp only [List.getElem?_toArray, Nat.add_zero]
                rw [hsplit, List.append_assoc, List.getElem?_append_right (by omega), hla, show a * sz + j - a * sz = j by omega, List.append_assoc, List.getElem?_append_left hjl]
                exact hj)
              simp only [Builtin.firstCells, loadCells]
              rw [hfl, hln] at this
              rw [this]; simp)
      ty hs1
    refine ⟨v', w', ?_, q2⟩
    simp only [execOp, resolve, Sem.run_bind, Sem.run_pure, Result.andThen_ok, invoke, builtin, List.map_toArray, List.map_cons, List.map_nil, hm.eval hx, hm.eval hy, q1]) k
end
end Go.Sx
