/-
  The calculus Sx, part 5: slices that are made, appended to, copied; structs that are built.
-/
import Derived.Test.YteeiccjglmehcaaGreatSx4
namespace Go.Sx
open Go

theorem growBy_le (newLen : Nat) : ∀ (r c : Nat), c ≤ 2 * newLen + 192 → Builtin.growBy newLen r c ≤ 2 * newLen + 192
  | 0, c, h => h
  | r + 1, c, h => by
    unfold Builtin.growBy
    split
    · exact h
    · exact growBy_le newLen r _ (by omega)
theorem nextslicecap_le {newLen oldCap : Nat} (h : oldCap < newLen) : Builtin.nextslicecap newLen oldCap ≤ 2 * newLen + 192 := by
  unfold Builtin.nextslicecap
  split
  · omega
  · split
    · omega
    · exact growBy_le _ _ _ (by omega)

theorem zeroC.run {P : Program} {e : TypeId} {zs : List Value} (hz : zeroC P e = some zs) (w : World) : ∃ z : Value, (zeroValue e).run P w = .ok z w ∧ z.cells = zs.toArray := by
  unfold zeroC at hz
  cases hi : P.info? e with
  | none => rw [hi] at hz; cases hz
  | some i =>
    rw [hi] at hz
    simp only [Option.bind_some] at hz
    cases hz' : i.zero with
    | none => rw [hz'] at hz; cases hz
    | some z =>
      rw [hz'] at hz
      have hz2 : z.cells.toList = zs := by simpa using hz
      exact ⟨z, by simp [zeroValue, typeInfo, hi, hz'], by rw [← hz2]⟩

section
variable {P : Program}
variable {α β : Type} {enc : α → List Value} {enc2 : β → List Value} {l1 l2' : List α} {l2 : List β} {e e2 t t2 : TypeId} {sz by_ by2 : Nat} {v1 v2 : Value} {r : List Chunk} {w : World}

/-- The first cells of a slice. -/
theorem run_first (h : Sat (sl v2 enc2 l2 e2 sz :: r) w) : (Builtin.firstCells sz l2.length v2).run P w = .ok ((l2.map enc2).flatten).toArray w ∧ (Builtin.lenOf v2).run P w = .ok l2.length w := by
  obtain ⟨h1, h2⟩ := sl_get h
  rcases h2 with ⟨rfl, rfl⟩ | ⟨b, cap, sp, rfl, hlt, hcap, hlen, hh⟩
  · simp [Builtin.firstCells, Builtin.lenOf]
  · refine ⟨?_, by simp [Builtin.lenOf]⟩
    have hl := flat_length l2 h1
    have := run_loadCellsFrom (P := P) (w := w) (b := b) (o := 0) ((l2.map enc2).flatten) 0 #[] (fun j u hj => by
      rw [cell_at hh]
      have hjl := (List.getElem?_eq_some_iff.1 hj).1
      simp only [Nat.zero_add, List.getElem?_toArray]
      rw [List.getElem?_append_left hjl]; exact hj)
    simp only [Builtin.firstCells, loadCells]
    rw [hl] at this
    rw [this]
    simp

theorem zeroCells_toList (zs : List Value) (n : Nat) : ∃ sp : List Value, Builtin.zeroCells zs.toArray n = sp.toArray ∧ sp.length = n * zs.length :=
  ⟨(Builtin.zeroCells zs.toArray n).toList, by simp, by simp [Builtin.zeroCells]⟩

/-- What 'append' does when there is room. -/
theorem run_append_in {base : Option Addr} {n1 cap n2 : Nat} {c2 : List Value} {ty : TypeId} {inf : TypeInfo} (hu : P.underlying t = some (.slice e)) (hu2 : P.underlying t2 = some (.slice e2) ∨ P.underlying t2 = some .string) (hinf : P.info? e = some inf) (hsz : inf.size = sz)
    (hn2 : (Builtin.lenOf v2).run P w = .ok n2 w) (hf2 : (Builtin.firstCells sz n2 v2).run P w = .ok c2.toArray w) (hle : n1 + n2 ≤ cap) :
    (Builtin.append_ #[t, t2] ty #[.slice base n1 cap, v2]).run P w = Result.andThen (((match base with | some a => storeCells (a.add (n1 * sz)) c2 | none => pure ()) : Sem Unit).run P w) fun _ w' => .ok (.slice base (n1 + n2) cap) w' := by
  subst hsz
  rcases hu2 with hu2 | hu2 <;> cases base <;> simp [Builtin.append_, run_underlying hu, run_underlying hu2, sizeOf, typeInfo, hinf, hn2, hle, hf2]

/-- What 'append' does when there is no room. -/
theorem run_append_out {zs : List Value} {base : Option Addr} {n1 cap n2 : Nat} {c1 c2 : List Value} {ty : TypeId} {inf : TypeInfo} (hu : P.underlying t = some (.slice e)) (hu2 : P.underlying t2 = some (.slice e2) ∨ P.underlying t2 = some .string) (hinf : P.info? e = some inf) (hsz : inf.size = sz)
    (hz : zeroC P e = some zs) (hby : 1 ≤ inf.bytes)
    (hn2 : ∀ w' : World, w'.heap = w.heap → (Builtin.lenOf v2).run P w' = .ok n2 w') (hf2 : ∀ w' : World, w'.heap = w.heap → (Builtin.firstCells sz n2 v2).run P w' = .ok c2.toArray w')
    (hf1 : ∀ w' : World, w'.heap = w.heap → (Builtin.firstCells sz n1 (.slice base n1 cap)).run P w' = .ok c1.toArray w') (hgt : cap < n1 + n2) (hroom : (2 * (n1 + n2) + 192) * inf.bytes ≤ 281474976710656) :
    ∃ cap' sp, n1 + n2 ≤ cap' ∧ cap' ≤ maxI ∧ sp.length = (cap' - (n1 + n2)) * zs.length ∧
    (Builtin.append_ #[t, t2] ty #[.slice base n1 cap, v2]).run P w = .ok (.slice (some ⟨w.heap.size, 0, none⟩) (n1 + n2) cap') (({ w with drawn := w.drawn + 1 } : World).alloc (.cells (c1 ++ c2 ++ sp).toArray e)) := by
  subst hsz
  obtain ⟨z, hzr, hzc⟩ := zeroC.run hz { w with drawn := w.drawn + 1 }
  have hb1 : Builtin.nextslicecap (n1 + n2) cap * inf.bytes ≤ 2 ^ 48 := by
    have := nextslicecap_le hgt
    have := Nat.mul_le_mul_right inf.bytes this
    omega
  have hneed : n1 + n2 ≤ 281474976710656 := by
    have : (2 * (n1 + n2) + 192) * 1 ≤ (2 * (n1 + n2) + 192) * inf.bytes := Nat.mul_le_mul_left _ hby
    omega
  obtain ⟨cap', hcap1, hcap2, e1⟩ : ∃ cap', n1 + n2 ≤ cap' ∧ cap' ≤ maxI ∧ (choose (Question.appendCap (n1 + n2) cap e)).run P w = .ok cap' { w with drawn := w.drawn + 1 } := by
    refine ⟨(Question.appendCap (n1 + n2) cap e).cut (w.tape w.drawn (Question.appendCap (n1 + n2) cap e)), ?_, ?_, by rw [run_choose]; rfl⟩
    · show n1 + n2 ≤ (n1 + n2) + _ % (2 ^ 63 - (n1 + n2))
      omega
    · show (n1 + n2) + _ % (2 ^ 63 - (n1 + n2)) ≤ maxI
      have hlt : (w.tape w.drawn (Question.appendCap (n1 + n2) cap e)) % (2 ^ 63 - (n1 + n2)) < 2 ^ 63 - (n1 + n2) := Nat.mod_lt _ (by omega)
      unfold maxI
      omega
  obtain ⟨sp, hsp1, hsp2⟩ := zeroCells_toList zs (cap' - (n1 + n2))
  refine ⟨cap', sp, hcap1, hcap2, hsp2, ?_⟩
  have hnle : ¬ n1 + n2 ≤ cap := by omega
  have hb1' : ¬ 2 ^ 48 < Builtin.nextslicecap (n1 + n2) cap * inf.bytes := by omega
  have hb0 : inf.bytes ≠ 0 := by omega
  rcases hu2 with hu2 | hu2 <;>
  simp only [Builtin.append_, Sem.run_bind, run_underlying hu, run_underlying hu2, sizeOf, typeInfo, hinf, run_program, Result.andThen_ok, Sem.run_pure, List.getElem?_toArray, List.getElem?_cons_zero, List.getElem?_cons_succ, hn2 w rfl,
    if_neg hnle, Sem.run_ite, Bool.false_eq_true, if_false, false_or, hb0, and_false, hb1', gt_iff_lt, e1, run_askRoom, hf1 { w with drawn := w.drawn + 1 } rfl, hf2 { w with drawn := w.drawn + 1 } rfl, hzr, hzc, hsp1, run_newRow, Bool.not_false, if_true,
    List.append_toArray]

theorem Sat.heap {cs : List Chunk} {w w' : World} (h : Sat cs w) (hh : w'.heap = w.heap) (ho : SameOut w w') : Sat cs w' := h.same ho hh

/-- 'append' onto a slice of the call's own; 'l2'' what is appended. -/
theorem run_append {zs : List Value} {n2 : Nat} {c2 : List Value} (ht : elemI P t = some (e, sz, by_)) (hu2 : P.underlying t2 = some (.slice e2) ∨ P.underlying t2 = some .string) (hz : zeroC P e = some zs) (hzl : zs.length = sz) (hby : 1 ≤ by_)
    (hroom : (2 * (l1.length + l2'.length) + 192) * by_ ≤ 281474976710656) (hn : n2 = l2'.length) (hc2 : c2 = (l2'.map enc).flatten) (he2 : ∀ x ∈ l2', (enc x).length = sz) (ho2 : c2.all oneC = true)
    (hn2 : ∀ w' : World, w'.heap = w.heap → (Builtin.lenOf v2).run P w' = .ok n2 w') (hf2 : ∀ w' : World, w'.heap = w.heap → (Builtin.firstCells sz n2 v2).run P w' = .ok c2.toArray w')
    (ty : TypeId) (h : Sat (sl v1 enc l1 e sz :: r) w) :
    ∃ v' w', (Builtin.append_ #[t, t2] ty #[v1, v2]).run P w = .ok v' w' ∧ Sat (sl v' enc (l1 ++ l2') e sz :: r) w' := by
  obtain ⟨hu, inf, hinf, hsz, hbi⟩ := elemI.run ht
  obtain ⟨he1, hv1⟩ := sl_get h
  subst hn hc2
  have he12 : ∀ x ∈ l1 ++ l2', (enc x).length = sz := fun x hx => (List.mem_append.1 hx).elim (he1 x) (he2 x)
  have hl1 := flat_length l1 he1
  have hl2 := flat_length l2' he2
  have hl12 := flat_length (l1 ++ l2') he12
  have grow : ∀ (base : Option Addr) (cap : Nat), v1 = .slice base l1.length cap → cap < l1.length + l2'.length →
      (∀ w' : World, w'.heap = w.heap → (Builtin.firstCells sz l1.length v1).run P w' = .ok ((l1.map enc).flatten).toArray w') →
      ∃ v' w', (Builtin.append_ #[t, t2] ty #[v1, v2]).run P w = .ok v' w' ∧ Sat (sl v' enc (l1 ++ l2') e sz :: r) w' := by
    intro base cap hv hlt hf1
    subst hv
    obtain ⟨cap', sp, k1, k2, k3, k4⟩ := run_append_out (ty := ty) (base := base) hu hu2 hinf hsz hz (by omega) hn2 hf2 hf1 hlt (by rw [hbi]; exact hroom)
    refine ⟨_, _, k4, ?_⟩
    have hs1 : Sat r { w with drawn := w.drawn + 1 } := (Sat.tail h).drew
    have hs2 := Sat.new (.cells ((l1.map enc).flatten ++ (l2'.map enc).flatten ++ sp).toArray e) hs1
    refine Sat.upd hs2 (SameOut.refl _) (Nat.le_refl _) fun D hD hl => ⟨fun _ _ _ => rfl, D, fun b hb => ⟨hl b hb, .inl hb⟩, he12, .inr ⟨_, cap', sp, by simp, hD.1, k2, ?_, ?_⟩⟩
    · rw [List.length_append, hl12, k3, hzl, List.length_append, ← Nat.add_mul]
      congr 1; omega
    · rw [hD.2]; simp
  by_cases hroom2 : ∃ cap, (∃ base, v1 = .slice base l1.length cap) ∧ l1.length + l2'.length ≤ cap
  · obtain ⟨cap, ⟨base, hv⟩, hle⟩ := hroom2
    subst hv
    have hA := run_append_in (ty := ty) (base := base) hu hu2 hinf hsz (hn2 w rfl) (hf2 w rfl) hle
    rcases hv1 with ⟨h1, h2⟩ | ⟨b, cap2, sp, h1, k1, k2, k3, k4⟩
    · obtain ⟨rfl, h3, rfl⟩ : base = none ∧ l1.length = 0 ∧ cap = 0 := by simpa using h1
      have h4 : l2' = [] := List.length_eq_zero_iff.1 (by omega)
      subst h4 h2
      refine ⟨_, w, by rw [hA]; rfl, ?_⟩
      simpa using h
    · obtain ⟨rfl, h3⟩ : base = some ⟨b, 0, none⟩ ∧ cap = cap2 := by simpa using h1
      subst h3
      have hfit : l1.length * sz + l2'.length * sz ≤ cap * sz := by rw [← Nat.add_mul]; exact Nat.mul_le_mul_right _ hle
      have hspl : l2'.length * sz ≤ sp.length := by rw [List.length_append, hl1] at k3; omega
      obtain ⟨w', q1, q2, q3, q4, q5⟩ := run_storeCells (P := P) (b := b) (o := l1.length * sz) (e := e) ((l2'.map enc).flatten) 0 w _ ho2 k4 (by rw [hl2, k3]; omega)
      refine ⟨_, w', by rw [hA]; simp only [add_none, Nat.zero_add]; rw [q1]; rfl, ?_⟩
      have hset : setsN ((l1.map enc).flatten ++ sp) (l1.length * sz + 0) ((l2'.map enc).flatten) = ((l1 ++ l2').map enc).flatten ++ sp.drop (l2'.length * sz) := by
        have e1 := setsN_append ((l2'.map enc).flatten) ((l1.map enc).flatten) (sp.take (l2'.length * sz)) (sp.drop (l2'.length * sz)) (by rw [hl2, List.length_take]; omega)
        rw [hl1, List.append_assoc, List.take_append_drop] at e1
        rw [Nat.add_zero, e1]; simp
      rw [hset] at q5
      have hv' : Value.slice (some ⟨b, 0, none⟩) (l1.length + l2'.length) cap = Value.slice (some ⟨b, 0, none⟩) (l1 ++ l2').length cap := by simp
      refine Sat.upd h q2 (by omega) fun D hD hl => ?_
      obtain ⟨_, hD2⟩ := hD
      have hDb : D b := by
        rcases hD2 with ⟨hx, _⟩ | ⟨b', cap', sp', hx, hDb, _⟩
        · cases hx
        · obtain ⟨rfl, _⟩ := slice_inj hx; exact hDb
      refine ⟨fun k _ hn => q4 k (fun hk => hn (hk ▸ hDb)), fun k => k = b, fun k hk => by subst hk; exact ⟨q3 ▸ hl k hDb, .inl hDb⟩, he12, .inr ⟨b, cap, sp.drop (l2'.length * sz), hv', rfl, k2, ?_, q5⟩⟩
      rw [List.length_append, hl12, List.length_drop, List.length_append, Nat.add_mul]
      rw [List.length_append, hl1] at k3; omega
  · rcases hv1 with ⟨rfl, rfl⟩ | ⟨b, cap, sp, rfl, k1, k2, k3, k4⟩
    · have hlt : 0 < 0 + l2'.length := by
        rcases Nat.eq_zero_or_pos l2'.length with h0 | h0
        · exact absurd ⟨0, ⟨none, rfl⟩, by simp [h0]⟩ hroom2
        · omega
      exact grow none 0 rfl hlt (fun w' _ => by simp [Builtin.firstCells])
    · have hlt : cap < l1.length + l2'.length := by
        apply Nat.lt_of_not_le; intro hle; exact hroom2 ⟨cap, ⟨_, rfl⟩, hle⟩
      exact grow _ cap rfl hlt (fun w' hw' => by
        have := run_loadCellsFrom (P := P) (w := w') (b := b) (o := 0) ((l1.map enc).flatten) 0 #[] (fun j u hj => by
          rw [cell_at (by rw [hw']; exact k4)]
          have hjl := (List.getElem?_eq_some_iff.1 hj).1
          simp only [Nat.zero_add, List.getElem?_toArray]
          rw [List.getElem?_append_left hjl]; exact hj)
        simp only [Builtin.firstCells, loadCells]
        rw [hl1] at this
        rw [this]; simp)
end

/-! ### The rules -/

/-- 'cs'' is 'cs' without the slice 'v'. -/
class OutV (cs : List Chunk) (v : Value) {α : outParam Type} (enc : outParam (α → List Value)) (l : outParam (List α)) (e : outParam TypeId) (sz : outParam Nat) (cs' : outParam (List Chunk)) : Prop where
  mem : Take1 cs (sl v enc l e sz) cs'
section
variable {α : Type} {enc : α → List Value} {l : List α} {e : TypeId} {sz : Nat} {v : Value} {c : Chunk} {cs cs' : List Chunk}
instance outVS [h : OutV cs v enc l e sz cs'] : OutV (c :: cs) v enc l e sz (c :: cs') := ⟨tS h.mem⟩
instance outV0 : OutV (sl v enc l e sz :: cs) v enc l e sz cs := ⟨t0⟩
end

section
variable {P : Program} {N : Nat} {Q : Exit → Act → World → Prop} {L L' : List (Nat × Value)} {cs cs' : List Chunk} {ops : Array Oper} {l : List Oper}
variable {d : Nat} {ty : TypeId} {pos : String} {af : Array Edge} {g : Option (Nat × Bool)}
variable {α β : Type} {enc : α → List Value} {enc2 : β → List Value} {l1 l2' : List α} {l2 : List β} {e e2 t t2 : TypeId} {sz by_ by2 : Nat} {v1 v2 : Value} {zs : List Value}

/-- An operation whose value is a new slice. -/
theorem XL.stepS {o : Oper} {xs : List α} (ho : o.dst = some d) (hc : chk ops L N d o.guard = true) (hx : ∀ a w, Mat N L a → Sat cs w → ∃ z w', (execOp a.eval o).run P w = .ok (.value z) w' ∧ Sat (sl z enc xs e sz :: cs') w')
    (k : ∀ v', OneV v' → XL P N ops Q l ((d, v') :: L) (sl v' enc xs e sz :: cs')) : XL P N ops Q (o :: l) L cs :=
  XL.stepE (α := { v : Value // OneV v }) (v := fun z => z.1) (cx := fun z => sl z.1 enc xs e sz :: cs') ho hc (fun a w hm hs => by
    obtain ⟨z, w', h1, h2⟩ := hx a w hm hs
    exact ⟨⟨z, sl_one h2⟩, w', h1, h2⟩) (fun z => k z.1 z.2)

/-- 'append(s, x...)', x a slice of the call's own (a literal of one element among them). 's' is used up. -/
theorem XL.app {x y : Operand} (l2' : List α) (ht : elemI P t = some (e, sz, by_)) (ht2 : elemI P t2 = some (e2, sz, by2)) (hz : zeroC P e = some zs) (hzl : (Nat.beq zs.length sz && Nat.ble 1 by_) = true)
    (hx : ev L x = some v1) (hy : ev L y = some v2) [ho : OutV cs v1 enc l1 e sz cs'] [hv : AtV cs' v2 enc2 l2 e2 sz] (hl : l2.map enc2 = l2'.map enc) (h1 : ∀ x ∈ l2', (enc x).all oneC = true)
    (hroom : (2 * (l1.length + l2'.length) + 192) * by_ ≤ 281474976710656) (hc : chk ops L N d g = true) (k : ∀ v', OneV v' → XL P N ops Q l ((d, v') :: L) (sl v' enc (l1 ++ l2') e sz :: cs')) :
    XL P N ops Q (⟨some d, .call ⟨.builtin .append, #[x, y], #[t, t2]⟩, ty, pos, af, g⟩ :: l) L cs :=
  XL.stepS rfl hc (fun a w hm hs => by
    simp only [Bool.and_eq_true] at hzl
    have hs1 := hs.perm ho.mem
    obtain ⟨r, hr⟩ := hv.mem
    have hs2 : Sat (sl v2 enc2 l2 e2 sz :: r) w := (Sat.tail hs1).perm hr
    have hll : l2.length = l2'.length := by have := congrArg List.length hl; simpa using this
    have he2 := (sl_get hs2).1
    have he2' : ∀ x ∈ l2', (enc x).length = sz := fun x hx => by
      have hm : enc x ∈ l2'.map enc := List.mem_map_of_mem hx
      rw [← hl] at hm
      obtain ⟨y, hy, hye⟩ := List.mem_map.1 hm
      rw [← hye]; exact he2 y hy
    obtain ⟨v', w', q1, q2⟩ := run_append (P := P) (v2 := v2) (n2 := l2.length) (c2 := (l2.map enc2).flatten) ht (.inl (elemI.run ht2).1) hz (Nat.eq_of_beq_eq_true hzl.1) (Nat.le_of_ble_eq_true hzl.2) hroom hll (by rw [hl]) he2'
      (by
        rw [hl, List.all_eq_true]
        intro u hu
        obtain ⟨us, h3, h4⟩ := List.mem_flatten.1 hu
        obtain ⟨x, h5, rfl⟩ := List.mem_map.1 h3
        exact List.all_eq_true.1 (h1 x h5) u h4)
      (fun w' hw' => by
        have h' := (sl_get hs2).2
        rcases h' with ⟨rfl, rfl⟩ | ⟨b, cap, sp, rfl, _⟩ <;> simp [Builtin.lenOf])
      (fun w' hw' => by
        have h' := sl_get hs2
        rcases h'.2 with ⟨rfl, rfl⟩ | ⟨b, cap, sp, rfl, _, _, _, hh⟩
        · simp [Builtin.firstCells]
        · have hfl := flat_length l2 h'.1
          have := run_loadCellsFrom (P := P) (w := w') (b := b) (o := 0) ((l2.map enc2).flatten) 0 #[] (fun j u hj => by
            rw [cell_at (by rw [hw']; exact hh)]
            have hjl := (List.getElem?_eq_some_iff.1 hj).1
            simp only [Nat.zero_add, List.getElem?_toArray]
            rw [List.getElem?_append_left hjl]; exact hj)
          simp only [Builtin.firstCells, loadCells]
          rw [hfl] at this
          rw [this]; simp)
      ty hs1
    refine ⟨v', w', ?_, q2⟩
    simp only [execOp, resolve, Sem.run_bind, Sem.run_pure, Result.andThen_ok, invoke, builtin, List.map_toArray, List.map_cons, List.map_nil, hm.eval hx, hm.eval hy, q1]) k

/-- 'make([]T, n)'. -/
theorem XL.mk {x : Operand} {y : Operand} {kx ky : IntKind} (n : Nat) (z : α) (ht : elemI P t = some (e, sz, by_)) (hz : zeroC P e = some zs) (hzl : (Nat.beq zs.length sz && Nat.ble 1 sz) = true) (he : enc z = zs)
    (hx : ev L x = some (.int kx (n : Int))) (hy : ev L y = some (.int ky (n : Int))) (hroom : n * by_ ≤ 281474976710656) (hn : n ≤ 281474976710656) (hc : chk ops L N d g = true)
    (k : ∀ v', OneV v' → XL P N ops Q l ((d, v') :: L) (sl v' enc (List.replicate n z) e sz :: cs)) :
    XL P N ops Q (⟨some d, .makeSlice t x y, ty, pos, af, g⟩ :: l) L cs :=
  XL.stepS rfl hc (fun a w hm hs => by
    simp only [Bool.and_eq_true] at hzl
    obtain ⟨hu, inf, hinf, hsz, hbi⟩ := elemI.run ht
    have hzl1 := Nat.eq_of_beq_eq_true hzl.1
    have hzl2 := Nat.le_of_ble_eq_true hzl.2
    obtain ⟨z0, hz0, hz1⟩ := zeroC.run hz w
    have hw : IntKind.i64.wrap (n : Int) = n := IntWalk.i64_in _ (by omega)
    have hsl : ((List.replicate n z).map enc).flatten.length = n * sz := by
      rw [flat_length _ (fun x hx => by rw [List.eq_of_mem_replicate hx, he, hzl1])]; simp
    have hcells : ((Array.range (n * sz)).map (zs.toArray[· % zs.toArray.size]!)) = (((List.replicate n z).map enc).flatten ++ []).toArray := by
      apply Array.ext
      · simp only [Array.size_map, Array.size_range, List.append_nil, List.size_toArray, hsl]
      · intro i h1 h2
        have hi : i < n * sz := by simpa using h1
        have hj : i / sz < n := Nat.div_lt_of_lt_mul (by rw [Nat.mul_comm]; exact hi)
        have hm1 : i % sz < sz := Nat.mod_lt _ (by omega)
        have hg := flat_get (enc := enc) (sz := sz) (o := i % sz) (List.replicate n z) (i / sz) (by simpa using hj) [] (fun x hx => by rw [List.eq_of_mem_replicate hx, he, hzl1]) hm1
        rw [show i / sz * sz + i % sz = i by rw [Nat.mul_comm]; exact Nat.div_add_mod i sz] at hg
        have h3 : ((((List.replicate n z).map enc).flatten ++ []).toArray)[i]? = some (zs[i % sz]'(by omega)) := by
          rw [List.getElem?_toArray, hg]
          simp only [List.getElem_replicate, he]
          exact List.getElem?_eq_getElem _
        rw [Array.getElem?_eq_getElem h2] at h3
        rw [Option.some.inj h3]
        simp [hzl1, hm1]
    refine ⟨.slice (some ⟨w.heap.size, 0, none⟩) n n, w.alloc (.cells (((List.replicate n z).map enc).flatten ++ []).toArray e), ?_, ?_⟩
    · have hb1 : ¬ (((inf.bytes : Nat) : Int) * (n : Int) > 2 ^ 48) := by
        have h3 := Int.ofNat_le.2 hroom
        have h4 : ((281474976710656 : Nat) : Int) = 281474976710656 := rfl
        rw [Int.natCast_mul] at h3
        rw [hbi, Int.mul_comm]; omega
      have hn0 : ¬ ((n : Int) < 0) := by omega
      have hz0' : n * inf.size = 0 → ((Array.range (n * inf.size)).map ((#[] : Array Value)[· % (#[] : Array Value).size]!)) = ((Array.range (n * inf.size)).map (zs.toArray[· % zs.toArray.size]!)) := fun h => by rw [h]; simp
      simp only [execOp, hm.eval hx, hm.eval hy, Instr.makeSlice, Sem.run_bind, run_underlying hu, Result.andThen_ok, asInt, asIntOf, Sem.run_pure, typeInfo, run_program, hinf, hw, hn0, hb1, decide_false, Bool.false_or, Bool.or_self, Int.lt_irrefl, gt_iff_lt,
        Bool.false_eq_true, if_false, run_askRoom, sizeOf, Int.toNat_natCast, Sem.run_ite, hz0, hz1]
      by_cases h0 : n * inf.size = 0
      · rw [if_pos h0]
        rw [hz0' h0, hsz, hcells]
        rfl
      · rw [if_neg h0]
        rw [hsz, hcells]
        rfl
    · refine Sat.upd (Sat.new _ hs) (SameOut.refl _) (Nat.le_refl _) fun D hD hl => ⟨fun _ _ _ => rfl, D, fun b hb => ⟨hl b hb, .inl hb⟩, fun x hx => by rw [List.eq_of_mem_replicate hx, he, hzl1], .inr ⟨_, n, [], by simp, hD.1, by unfold maxI; omega, ?_, hD.2⟩⟩
      rw [List.length_append, hsl]; rfl) k
end
end Go.Sx
