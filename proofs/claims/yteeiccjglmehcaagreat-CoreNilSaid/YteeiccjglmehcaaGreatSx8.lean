/-
  The calculus Sx, part 8: bytes whose head may be frozen ('buf'), as a strings.Builder keeps them; unsafe.String over them; pointers there and back; functions without a body; contracts of the kit's shelf.
-/
import Derived.Test.YteeiccjglmehcaaGreatSx7
import Derived.Lib.UnsafeStr
import Derived.Lib.Builder
namespace Go.Sx
open Go

abbrev bytesV (s : List UInt8) : List Value := s.map fun c => .int .u8 (c.toNat : Int)

/-- The slice value 'v' owns an array of bytes, which are 's'; a head of them may be frozen. -/
def buf (v : Value) (s : List UInt8) (e : TypeId) : Chunk where
  holds w D := (v = .slice none 0 0 ∧ s = []) ∨ ∃ g cap sp k, v = .slice (some ⟨g, 0, none⟩) s.length cap ∧ D g ∧ cap ≤ maxI ∧ k ≤ s.length ∧ (bytesV s ++ sp).length = cap ∧ w.heap[g]? = some (.cells (bytesV s ++ sp).toArray e (0, k))
  loc w w' D ho hb h := h.imp id fun ⟨g, cap, sp, k, h1, h2, h3, h4, h5, h6⟩ => ⟨g, cap, sp, k, h1, h2, h3, h4, h5, by rw [hb g h2]; exact h6⟩

class AtBuf (cs : List Chunk) (v : Value) (s : outParam (List UInt8)) (e : outParam TypeId) : Prop where
  mem : ∃ r, Take1 cs (buf v s e) r
section
variable {c : Chunk} {cs : List Chunk} {v : Value} {s : List UInt8} {e : TypeId}
instance atBufS [h : AtBuf cs v s e] : AtBuf (c :: cs) v s e := ⟨let ⟨_, k⟩ := h.mem; ⟨_, tS k⟩⟩
instance atBuf0 : AtBuf (buf v s e :: cs) v s e := ⟨⟨_, t0⟩⟩
end
class OutBuf (cs : List Chunk) (v : Value) (s : outParam (List UInt8)) (e : outParam TypeId) (cs' : outParam (List Chunk)) : Prop where
  mem : Take1 cs (buf v s e) cs'
section
variable {c : Chunk} {cs cs' : List Chunk} {v : Value} {s : List UInt8} {e : TypeId} {w w' : World} {r : List Chunk}
instance outBufS [h : OutBuf cs v s e cs'] : OutBuf (c :: cs) v s e (c :: cs') := ⟨tS h.mem⟩
instance outBuf0 : OutBuf (buf v s e :: cs) v s e cs := ⟨t0⟩

theorem buf_get (h : Sat (buf v s e :: r) w) : (v = .slice none 0 0 ∧ s = []) ∨ ∃ g cap sp k, v = .slice (some ⟨g, 0, none⟩) s.length cap ∧ g < w.heap.size ∧ cap ≤ maxI ∧ k ≤ s.length ∧ (bytesV s ++ sp).length = cap ∧ w.heap[g]? = some (.cells (bytesV s ++ sp).toArray e (0, k)) := by
  obtain ⟨D1, D2, h1, h2, h3, h4, h5⟩ := h
  exact h4.imp id fun ⟨g, cap, sp, k, k1, k2, k3, k4, k5, k6⟩ => ⟨g, cap, sp, k, k1, h1 g k2, k3, k4, k5, k6⟩
theorem buf_one (h : Sat (buf v s e :: r) w) : OneV v := by
  rcases buf_get h with ⟨rfl, _⟩ | ⟨g, cap, sp, k, rfl, _⟩ <;> exact ⟨rfl⟩
theorem buf_nil (h : Sat r w) : Sat (buf (.slice none 0 0) [] e :: r) w :=
  ⟨fun _ => False, fun b => b < w.heap.size, fun _ x => x.elim, fun _ x => x, fun _ x _ => x.elim, .inl ⟨rfl, rfl⟩, h⟩

theorem buf_set {s' : List UInt8} (h : Sat (buf v s e :: r) w) {g cap k' : Nat} {sp' : List Value} (hv : v = .slice (some ⟨g, 0, none⟩) s.length cap) {v' : Value} (hv' : v' = .slice (some ⟨g, 0, none⟩) s'.length cap) (ho : SameOut w w') (hsz : w'.heap.size = w.heap.size) (hcap : cap ≤ maxI) (hk' : k' ≤ s'.length)
    (hlen : (bytesV s' ++ sp').length = cap) (hb : w'.heap[g]? = some (.cells (bytesV s' ++ sp').toArray e (0, k'))) (hk : ∀ k, k ≠ g → w'.heap[k]? = w.heap[k]?) : Sat (buf v' s' e :: r) w' := by
  refine h.upd ho (by omega) fun D hD hl => ?_
  rcases hD with ⟨h2, _⟩ | ⟨g2, cap2, sp2, k2, k1, kD, k3, k4, k5, k6⟩
  · rw [h2] at hv; cases hv
  · have hg : g2 = g := by rw [k1] at hv; exact (slice_inj hv).1
    subst hg
    exact ⟨fun k _ hn => hk k (fun he => hn (he ▸ kD)), fun k => k = g2, fun k hkb => by subst hkb; exact ⟨hsz ▸ hl k kD, .inl kD⟩, .inr ⟨g2, cap, sp', k', hv', rfl, hcap, hk', hlen, hb⟩⟩
end

section
variable {P : Program} {N : Nat} {Q : Exit → Act → World → Prop} {L L' : List (Nat × Value)} {cs cs' : List Chunk} {ops : Array Oper} {l : List Oper}
variable {d : Nat} {ty : TypeId} {pos : String} {af : Array Edge} {g : Option (Nat × Bool)} {v : Value} {s : List UInt8} {e : TypeId}

theorem XC.oneB {c : Code} (v : Value) [hv : AtBuf cs v s e] (h : OneV v → XC P N Q c L cs) : XC P N Q c L cs := fun a w hm hs => by
  obtain ⟨r, hr⟩ := hv.mem
  exact h (buf_one (hs.perm hr)) a w hm hs

theorem XL.lenB {t : TypeId} {x : Operand} {ei : TypeId × Nat × Nat} (ht : elemI P t = some ei) (hx : ev L x = some v) [hv : AtBuf cs v s e]
    (hc : chk ops L N d g = true) (k : XL P N ops Q l ((d, .int .i64 (s.length : Int)) :: L) cs) : XL P N ops Q (⟨some d, .call ⟨.builtin .len, #[x], #[t]⟩, ty, pos, af, g⟩ :: l) L cs :=
  XL.stepV rfl hc (fun a w hm hs => ⟨w, by
    obtain ⟨e', sz', by'⟩ := ei
    have hu := (elemI.run ht).1
    obtain ⟨r, hr⟩ := hv.mem
    rcases buf_get (hs.perm hr) with ⟨rfl, rfl⟩ | ⟨b, cap, sp, k, rfl, _⟩ <;>
      simp [execOp, resolve, invoke, builtin, Builtin.len_, hm.eval hx, run_underlying hu, goInt], hs⟩) k

theorem run_storeCellsF {b o k : Nat} {e : TypeId} : ∀ (vs : List Value) (i : Nat) (w : World) (xs : List Value), vs.all oneC = true → k ≤ o + i → w.heap[b]? = some (.cells xs.toArray e (0, k)) → o + i + vs.length ≤ xs.length →
    ∃ w', (storeCells ⟨b, o, none⟩ vs i).run P w = .ok () w' ∧ SameOut w w' ∧ w'.heap.size = w.heap.size ∧ (∀ k, k ≠ b → w'.heap[k]? = w.heap[k]?) ∧
      w'.heap[b]? = some (.cells (setsN xs (o + i) vs).toArray e (0, k)) := by
  intro vs
  induction vs with
  | nil => intro i w xs _ _ hh hl; exact ⟨w, by simp [storeCells], SameOut.refl w, rfl, fun _ _ => rfl, hh⟩
  | cons v vs ih =>
    intro i w xs h1 hko hh hl
    simp only [List.all_cons, Bool.and_eq_true, List.length_cons] at h1 hl
    have hc : w.cell? ⟨b, o + i, none⟩ = some (xs[o + i]'(by omega)) := by
      rw [cell_at hh]; simp
    have hf : w.frozen? ⟨b, o + i, none⟩ = false := by simp [World.frozen?, hh]; omega
    have hh' := heap_set (o := o + i) (v := v) hh
    have e1 : xs.toArray.setIfInBounds (o + i) v = (xs.set (o + i) v).toArray := by simp
    rw [e1] at hh'
    obtain ⟨w', hr, ho, hs, hk, hb⟩ := ih (i + 1) _ _ h1.2 (by omega) hh' (by simp; omega)
    refine ⟨w', ?_, ⟨ho.os, ho.tape, ho.output⟩, by rw [hs]; simp, fun k hne => (hk k hne).trans (heap_set_other hne), hb⟩
    simp only [storeCells, Sem.run_bind, add_none, run_store P w _ v .plain (oneC.one' h1.1), hc, hf, Bool.false_eq_true, if_false, Result.andThen_ok, hr]

theorem bytesV_one (s : List UInt8) : (bytesV s).all oneC = true := by
  rw [List.all_eq_true]; intro x hx
  obtain ⟨c, _, rfl⟩ := List.mem_map.1 hx
  rfl

/-- 'append' of bytes onto a builder's bytes. -/
theorem run_appendB {t t2 e2 ty : TypeId} {zs : List Value} {n2 : Nat} {s2 : List UInt8} {v2 : Value} {r : List Chunk} {w : World} (ht : elemI P t = some (e, 1, 1)) (hu2 : P.underlying t2 = some (.slice e2) ∨ P.underlying t2 = some .string) (hz : zeroC P e = some zs) (hzl : zs.length = 1)
    (hroom : 2 * (s.length + s2.length) + 192 ≤ 281474976710656) (hn : n2 = s2.length)
    (hn2 : ∀ w' : World, w'.heap = w.heap → (Builtin.lenOf v2).run P w' = .ok n2 w') (hf2 : ∀ w' : World, w'.heap = w.heap → (Builtin.firstCells 1 n2 v2).run P w' = .ok (bytesV s2).toArray w')
    (h : Sat (buf v s e :: r) w) : ∃ v' w', (Builtin.append_ #[t, t2] ty #[v, v2]).run P w = .ok v' w' ∧ Sat (buf v' (s ++ s2) e :: r) w' := by
  obtain ⟨hu, inf, hinf, hsz, hbi⟩ := elemI.run ht
  have hv1 := buf_get h
  subst hn
  have hl1 : (bytesV s).length = s.length := by simp [bytesV]
  have hl2 : (bytesV s2).length = s2.length := by simp [bytesV]
  have grow : ∀ (base : Option Addr) (cap : Nat), v = .slice base s.length cap → cap < s.length + s2.length →
      (∀ w' : World, w'.heap = w.heap → (Builtin.firstCells 1 s.length v).run P w' = .ok (bytesV s).toArray w') →
      ∃ v' w', (Builtin.append_ #[t, t2] ty #[v, v2]).run P w = .ok v' w' ∧ Sat (buf v' (s ++ s2) e :: r) w' := by
    intro base cap hv hlt hf1
    subst hv
    obtain ⟨cap', sp, k1, k2, k3, k4⟩ := run_append_out (ty := ty) (base := base) hu hu2 hinf hsz hz (by omega) hn2 hf2 hf1 hlt (by rw [hbi]; omega)
    refine ⟨_, _, k4, ?_⟩
    have hs1 : Sat r { w with drawn := w.drawn + 1 } := (Sat.tail h).drew
    have hs2 := Sat.new (.cells (bytesV s ++ bytesV s2 ++ sp).toArray e) hs1
    refine Sat.upd hs2 (SameOut.refl _) (Nat.le_refl _) fun D hD hl => ⟨fun _ _ _ => rfl, D, fun b hb => ⟨hl b hb, .inl hb⟩, .inr ⟨_, cap', sp, 0, by simp, hD.1, k2, Nat.zero_le _, ?_, ?_⟩⟩
    · simp only [bytesV, List.map_append, List.length_append, List.length_map]
      rw [k3, hzl]; omega
    · rw [hD.2]; simp [bytesV]
  by_cases hroom2 : ∃ cap, (∃ base, v = .slice base s.length cap) ∧ s.length + s2.length ≤ cap
  · obtain ⟨cap, ⟨base, hv⟩, hle⟩ := hroom2
    subst hv
    have hA := run_append_in (ty := ty) (base := base) hu hu2 hinf hsz (hn2 w rfl) (hf2 w rfl) hle
    rcases hv1 with ⟨h1, h2⟩ | ⟨b, cap2, sp, k, h1, k1, k2, kk, k3, k4⟩
    · obtain ⟨rfl, h3, rfl⟩ : base = none ∧ s.length = 0 ∧ cap = 0 := by simpa using h1
      have h4 : s2 = [] := List.length_eq_zero_iff.1 (by omega)
      subst h4 h2
      refine ⟨_, w, by rw [hA]; rfl, ?_⟩
      simpa using h
    · obtain ⟨rfl, h3⟩ : base = some ⟨b, 0, none⟩ ∧ cap = cap2 := by simpa using h1
      subst h3
      have hspl : s2.length ≤ sp.length := by rw [List.length_append, hl1] at k3; omega
      obtain ⟨w', q1, q2, q3, q4, q5⟩ := run_storeCellsF (P := P) (b := b) (o := s.length) (e := e) (bytesV s2) 0 w _ (bytesV_one s2) (by omega) k4 (by rw [hl2, k3]; omega)
      refine ⟨_, w', by rw [hA]; simp only [add_none, Nat.zero_add, Nat.mul_one]; rw [q1]; rfl, ?_⟩
      have hset : setsN (bytesV s ++ sp) (s.length + 0) (bytesV s2) = bytesV (s ++ s2) ++ sp.drop s2.length := by
        have e1 := setsN_append (bytesV s2) (bytesV s) (sp.take s2.length) (sp.drop s2.length) (by rw [hl2, List.length_take]; omega)
        rw [hl1, List.append_assoc, List.take_append_drop] at e1
        rw [Nat.add_zero, e1]; simp [bytesV]
      rw [hset] at q5
      refine buf_set h rfl (by simp) q2 q3 k2 (Nat.le_trans kk (by simp)) ?_ q5 q4
      simp only [bytesV, List.length_append, List.length_map, List.length_drop] at k3 ⊢
      omega
  · rcases hv1 with ⟨rfl, rfl⟩ | ⟨b, cap, sp, k, rfl, k1, k2, kk, k3, k4⟩
    · have hlt : 0 < 0 + s2.length := by
        rcases Nat.eq_zero_or_pos s2.length with h0 | h0
        · exact absurd ⟨0, ⟨none, rfl⟩, by simp [h0]⟩ hroom2
        · omega
      exact grow none 0 rfl hlt (fun w' _ => by simp [Builtin.firstCells])
    · have hlt : cap < s.length + s2.length := by
        apply Nat.lt_of_not_le; intro hle; exact hroom2 ⟨cap, ⟨_, rfl⟩, hle⟩
      exact grow _ cap rfl hlt (fun w' hw' => by
        have := run_loadCellsFrom (P := P) (w := w') (b := b) (o := 0) (bytesV s) 0 #[] (fun j u hj => by
          rw [cell_at (by rw [hw']; exact k4)]
          have hjl := (List.getElem?_eq_some_iff.1 hj).1
          simp only [Nat.zero_add, List.getElem?_toArray]
          rw [List.getElem?_append_left hjl]; exact hj)
        simp only [Builtin.firstCells, loadCells, Nat.mul_one]
        rw [hl1] at this
        rw [this]; simp)

/-- 'append(b.buf, s...)', s a text. -/
theorem XL.appB {t t2 : TypeId} {x y : Operand} {zs : List Value} {s2 : List UInt8} (ht : elemI P t = some (e, 1, 1)) (hu2 : P.underlying t2 = some .string) (hz : zeroC P e = some zs) (hzl : Nat.beq zs.length 1 = true)
    (hx : ev L x = some v) (hy : ev L y = some (S s2)) [ho : OutBuf cs v s e cs'] (hroom : 2 * (s.length + s2.length) + 192 ≤ 281474976710656) (hc : chk ops L N d g = true)
    (k : ∀ v', OneV v' → XL P N ops Q l ((d, v') :: L) (buf v' (s ++ s2) e :: cs')) : XL P N ops Q (⟨some d, .call ⟨.builtin .append, #[x, y], #[t, t2]⟩, ty, pos, af, g⟩ :: l) L cs :=
  XL.stepE (α := { v : Value // OneV v }) (v := fun z => z.1) (cx := fun z => buf z.1 (s ++ s2) e :: cs') rfl hc (fun a w hm hs => by
    obtain ⟨v', w', q1, q2⟩ := run_appendB (P := P) (e2 := 0) (ty := ty) (v2 := S s2) ht (.inr hu2) hz (Nat.eq_of_beq_eq_true hzl) hroom (n2 := s2.length) rfl
      (fun w' _ => by simp [Builtin.lenOf, size_S]) (fun w' _ => by
        have e1 : (⟨s2.toArray⟩ : ByteArray).extract 0 s2.length = ⟨s2.toArray⟩ := by rw [extract_S]; simp
        simp [Builtin.firstCells, e1, bytesV]) (hs.perm ho.mem)
    refine ⟨⟨v', buf_one q2⟩, w', ?_, q2⟩
    simp only [execOp, resolve, Sem.run_bind, Sem.run_pure, Result.andThen_ok, invoke, builtin, List.map_toArray, List.map_cons, List.map_nil, hm.eval hx, hm.eval hy, q1]) (fun z => k z.1 z.2)

/-- What unsafe.SliceData gives. -/
def SDat (v : Value) (s : List UInt8) (p : Option Addr) : Prop := s = [] ∨ ∃ b n cap, v = .slice (some ⟨b, 0, none⟩) n cap ∧ p = some ⟨b, 0, none⟩

/-- unsafe.SliceData of the bytes. -/
theorem XL.usd {t ep : TypeId} {x : Operand} (hp : P.underlying ty = some (.pointer ep)) (hx : ev L x = some v) [hv : AtBuf cs v s e]
    (hc : chk ops L N d g = true) (k : ∀ p, SDat v s p → XL P N ops Q l ((d, .pointer p) :: L) cs) : XL P N ops Q (⟨some d, .call ⟨.builtin .unsafeSliceData, #[x], #[t]⟩, ty, pos, af, g⟩ :: l) L cs :=
  XL.stepE (α := { p : Option Addr // SDat v s p }) (v := fun z => .pointer z.1) (cx := fun _ => cs) rfl hc (fun a w hm hs => by
    obtain ⟨r, hr⟩ := hv.mem
    rcases buf_get (hs.perm hr) with ⟨rfl, rfl⟩ | ⟨b, cap, sp, k, rfl, hb, _, hk, hlen, hh⟩
    · refine ⟨⟨none, .inl rfl⟩, w, ?_, hs⟩
      simp only [execOp, resolve, Sem.run_bind, Sem.run_pure, Result.andThen_ok, invoke, builtin, List.map_toArray, List.map_cons, List.map_nil, hm.eval hx]
      rfl
    · by_cases h0 : cap = 0
      · subst h0
        have hs0 : s = [] := by
          have h1 := List.length_eq_zero_iff.1 hlen
          have h2 := (List.append_eq_nil_iff.1 h1).1
          simpa [bytesV] using h2
        refine ⟨⟨some ⟨w.heap.size, 0, none⟩, .inl hs0⟩, w.alloc (.view ⟨b, 0, none⟩ ep), ?_, (Sat.new _ hs).tail⟩
        have h1 := Lib.run_unsafeSliceData_zero (P := P) (w := w) #[t] ty ep hp ⟨b, 0, none⟩ s.length (e, (bytesV s ++ sp).toArray.size) (by simp [World.shape?, hh])
        simp only [execOp, resolve, Sem.run_bind, Sem.run_pure, Result.andThen_ok, invoke, builtin, List.map_toArray, List.map_cons, List.map_nil, hm.eval hx, h1]
      · refine ⟨⟨some ⟨b, 0, none⟩, .inr ⟨b, _, cap, rfl, rfl⟩⟩, w, ?_, hs⟩
        simp only [execOp, resolve, Sem.run_bind, Sem.run_pure, Result.andThen_ok, invoke, builtin, List.map_toArray, List.map_cons, List.map_nil, hm.eval hx, Lib.run_unsafeSliceData_row (P := P) (w := w) #[t] ty ⟨b, 0, none⟩ s.length cap h0]) (fun z => k z.1 z.2)

theorem Sat.freeze {b n : Nat} {r : List Chunk} {w : World} (h : Sat (buf v s e :: r) w) {cap m : Nat} (hv : v = .slice (some ⟨b, 0, none⟩) m cap) (hn : n = s.length) : Sat (buf v s e :: r) (w.freeze ⟨b, 0, none⟩ n) := by
  subst hn
  rcases buf_get h with ⟨h1, _⟩ | ⟨b', cap', sp, k, h1, hb, hcap, hk, hlen, hh⟩
  · rw [h1] at hv; cases hv
  · have e1 := h1
    rw [hv] at e1
    obtain ⟨rfl, rfl, rfl⟩ := slice_inj e1
    by_cases h0 : s.length = 0
    · have : w.freeze ⟨b, 0, none⟩ s.length = w := by simp [World.freeze, h0]
      rw [this]; exact h
    · have hfz : (w.freeze ⟨b, 0, none⟩ s.length).heap[b]? = some (.cells (bytesV s ++ sp).toArray e (0, s.length)) := by
        simp only [World.freeze, if_neg h0, Array.getElem?_modify, if_true, hh, Option.map_some, Nat.zero_add]
        by_cases hk0 : k = 0
        · subst hk0; simp
        · have : (0 == k) = false := by simp; omega
          simp [this, Nat.max_eq_right hk]
      refine buf_set h hv hv ⟨by simp [World.freeze, h0], by simp [World.freeze, h0], by simp [World.freeze, h0]⟩ (by simp [World.freeze, h0]) hcap (Nat.le_refl _) hlen hfz (fun k hk => ?_)
      simp only [World.freeze, if_neg h0, Array.getElem?_modify]
      rw [if_neg (fun x => hk x.symm)]

/-- unsafe.String over them. -/
theorem XL.ustr {pt it : TypeId} {x y : Operand} {p : Option Addr} (hp : P.underlying pt = some (.pointer e)) (hce : P.cellsOf e = 1) (hx : ev L x = some (.pointer p)) (hy : ev L y = some (.int .i64 (s.length : Int))) (hsd : SDat v s p) (h63 : s.length ≤ 9223372036854775807) [hv : AtBuf cs v s e]
    (hc : chk ops L N d g = true) (k : XL P N ops Q l ((d, S s) :: L) cs) : XL P N ops Q (⟨some d, .call ⟨.builtin .unsafeString, #[x, y], #[pt, it]⟩, ty, pos, af, g⟩ :: l) L cs :=
  XL.stepV rfl hc (fun a w hm hs => by
    obtain ⟨r, hr⟩ := hv.mem
    have hs1 := hs.perm hr
    by_cases h0 : s = []
    · subst h0
      refine ⟨w, ?_, hs⟩
      have h1 := Lib.run_unsafeString_none (P := P) (w := w) pt it ty p
      simp only [execOp, resolve, Sem.run_bind, Sem.run_pure, Result.andThen_ok, invoke, builtin, List.map_toArray, List.map_cons, List.map_nil, hm.eval hx, hm.eval hy]
      simp only [List.length_nil, Int.ofNat_zero] at h1 ⊢
      rw [h1]; rfl
    · rcases hsd with hsd | ⟨b, n, cap, hvv, rfl⟩
      · exact absurd hsd h0
      · rcases buf_get hs1 with ⟨h1, _⟩ | ⟨b', cap', sp, k, h1, hb, hcap, hk, hlen, hh⟩
        · rw [h1] at hvv; cases hvv
        · have e1 := h1
          rw [hvv] at e1
          obtain ⟨rfl, rfl, rfl⟩ := slice_inj e1
          refine ⟨_, ?_, (Sat.freeze hs1 hvv rfl).perm hr.symm⟩
          have h2 := Lib.run_unsafeString_row (P := P) (w := w) pt it ty e hp hce b (bytesV s ++ sp).toArray.size (by simp [World.shape?, hh]) s h0 (by simp [bytesV]) h63 (fun j c hj => by
            rw [add_none, cell_at hh]
            simp only [Nat.zero_add, List.getElem?_toArray]
            have hjl : j < (bytesV s).length := by rw [List.length_map]; exact (List.getElem?_eq_some_iff.1 hj).1
            rw [List.getElem?_append_left hjl, List.getElem?_map, hj]; rfl)
          simp only [execOp, resolve, Sem.run_bind, Sem.run_pure, Result.andThen_ok, invoke, builtin, List.map_toArray, List.map_cons, List.map_nil, hm.eval hx, hm.eval hy, h2]) k

/-! ### Pointers there and back -/
theorem XL.cvTo {src dst t : TypeId} {x : Operand} {b o : Nat} {xs : List Value} {i : TypeInfo} (hs : P.underlying src = some (.pointer t)) (hd : P.underlying dst = some .unsafePointer) (hi : P.info? t = some i) (hi0 : i.size ≠ 0) (hx : ev L x = some (.pointer (some ⟨b, o, none⟩))) [hb : AtB cs b xs e]
    (ho : Nat.blt o xs.length = true) (hc : chk ops L N d g = true) (k : XL P N ops Q l ((d, .pointer (some ⟨b, o, none⟩)) :: L) cs) : XL P N ops Q (⟨some d, .convert src dst x, ty, pos, af, g⟩ :: l) L cs :=
  XL.stepV rfl hc (fun a w hm hs' => ⟨w, by
    have hh := (hb.get hs').2
    have hlt : o < xs.length := by simp only [Nat.blt] at ho; exact Nat.lt_of_succ_le (Nat.le_of_ble_eq_true ho)
    simp only [execOp, hm.eval hx]
    rw [Sem.run_bind, Lib.run_to_unsafe w ⟨b, o, none⟩ hs hd hi hi0 (e := e) (cells := xs.length) (by simp [World.shape?, hh]) hlt]; rfl, hs'⟩) k
theorem XL.cvFrom {src dst u : TypeId} {x : Operand} {b o : Nat} {xs : List Value} {i : TypeInfo} (hs : P.underlying src = some .unsafePointer) (hd : P.underlying dst = some (.pointer u)) (hi : P.info? u = some i) (hx : ev L x = some (.pointer (some ⟨b, o, none⟩))) [hb : AtB cs b xs e]
    (hl : liesAt P P.depth e (xs.length / P.cellsOf e) o u 1 = true) (hc : chk ops L N d g = true) (k : XL P N ops Q l ((d, .pointer (some ⟨b, o, none⟩)) :: L) cs) : XL P N ops Q (⟨some d, .convert src dst x, ty, pos, af, g⟩ :: l) L cs :=
  XL.stepV rfl hc (fun a w hm hs' => ⟨w, by
    have hh := (hb.get hs').2
    simp only [execOp, hm.eval hx]
    rw [Sem.run_bind, Lib.run_from_unsafe w ⟨b, o, none⟩ hs hd hi (e := e) (cells := xs.length) (by simp [World.shape?, hh]) hl]; rfl, hs'⟩) k

/-- A function without a body that hands its argument back. -/
theorem XL.same {f : FuncId} {fn : Func} {x : Operand} {ats : Array TypeId} {u : Value} (hf : P.funcs[f]? = some fn) (hname : (fn.name == "runtime.NumGoroutine") = false) (hb : fn.body.isNone = true) (hn : Extern.findNext fn = none) (he : Extern.find fn = some Extern.AbiNoEscape.same)
    (hx : ev L x = some u) (hc : chk ops L N d g = true) (k : XL P N ops Q l ((d, u) :: L) cs) : XL P N ops Q (⟨some d, .call ⟨.value (.func f), #[x], ats⟩, ty, pos, af, g⟩ :: l) L cs :=
  XL.stepP rfl hc (fun a w hm => by
    have hfe : a.eval (.func f) = .func (.func f) #[] #[] := rfl
    simp only [execOp, resolve, hfe, Deferred.ofValue, Sem.run_bind, Sem.run_pure, Result.andThen_ok, invoke, List.map_toArray, List.map_cons, List.map_nil, hm.eval hx, List.append_toArray, List.nil_append, List.append_nil]
    rw [run_callFunc_extern hf hname hb hn he]
    simp [Lib.run_noEscape]) k

/-- One and the same address. -/
theorem eqSame {t el : TypeId} {i : TypeInfo} {p : Addr} (ht : P.underlying t = some (.pointer el)) (hi : P.info? el = some i) (d : Nat) (w : World) : (Op.equalIn (d + 1) t (.pointer (some p)) (.pointer (some p))).run P w = .ok true w := by
  simp [Op.equalIn, run_underlying ht, sizeOf, typeInfo, hi, sameAddr]
theorem bNeSame {t el : TypeId} {i : TypeInfo} {p : Addr} {x y : Operand} (ht : P.underlying t = some (.pointer el)) (hi : P.info? el = some i) : BinR P .neq t x y (.pointer (some p)) (.pointer (some p)) (.bool false) :=
  bNeOf (fun w => by simp only [binOp, Sem.run_bind, equal_of (eqSame ht hi)]; rfl) (fun w => rfl)

/-! ### Contracts of the kit's shelf -/
theorem Sat.below {cs : List Chunk} {w w' : World} (h : Sat cs w) (hb : RowKit.Below w.heap.size w w') : Sat cs w' :=
  SatD.mono (fun _ h => Nat.lt_of_lt_of_le h hb.size) (SatD.loc ⟨hb.os, hb.tape, hb.output⟩ (fun b hlt => hb.block b hlt) h)
theorem Does.of_below {f : FuncId} {args : List Value} {u : Value} (h : ∀ w, Calls P f args.toArray w fun e w' => e = .returned u ∧ RowKit.Below w.heap.size w w') : Does P f args [] fun v c => v = u ∧ c = [] :=
  fun _ w hs => (h w).mono fun _ _ ⟨h1, h2⟩ => ⟨u, [], h1, ⟨rfl, rfl⟩, Sat.below hs h2⟩

/-! ### Claims over hidden things, facts, more chunks -/
theorem Does.exi {α : Type} {f : FuncId} {args : List Value} {g : α → List Chunk} {cs : List Chunk} {R : Value → List Chunk → Prop} (h : ∀ z, Does P f args (g z ++ cs) R) : Does P f args (Sx.exi g :: cs) R := by
  intro F w hs
  obtain ⟨z, hz⟩ := Sat.opens hs
  exact h z F w (by rw [List.append_assoc]; exact hz)
theorem Does.pur {f : FuncId} {args : List Value} {p : Prop} {cs : List Chunk} {R : Value → List Chunk → Prop} (h : p → Does P f args cs R) : Does P f args (Sx.pur p :: cs) R :=
  fun F w hs => h (Sat.fact hs) F w hs.tail
/-- More chunks than a function needs. -/
theorem Does.frame {f : FuncId} {args : List Value} {cs rest : List Chunk} {R : Value → List Chunk → Prop} (h : Does P f args cs R) : Does P f args (cs ++ rest) fun v c => ∃ c', R v c' ∧ c = c' ++ rest := by
  intro F w hs
  rw [List.append_assoc] at hs
  refine (h (star (rest ++ [F])) w hs.fold).mono ?_
  rintro e w' ⟨v, c, rfl, hR, hs'⟩
  exact ⟨v, c ++ rest, rfl, ⟨c, hR, rfl⟩, by rw [List.append_assoc]; exact hs'.unfold⟩
end
end Go.Sx
