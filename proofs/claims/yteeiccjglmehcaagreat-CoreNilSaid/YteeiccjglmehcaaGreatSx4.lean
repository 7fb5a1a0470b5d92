/-
  The calculus Sx, part 4: slices whose array is the call's own ('sl').
-/
import Derived.Test.YteeiccjglmehcaaGreatSx3
namespace Go.Sx
open Go

/-! ### Lists of rows -/

theorem flat_length {α : Type} {enc : α → List Value} {sz : Nat} : ∀ (l : List α), (∀ x ∈ l, (enc x).length = sz) → ((l.map enc).flatten).length = l.length * sz
  | [], _ => by simp
  | x :: l, h => by
    simp only [List.map_cons, List.flatten_cons, List.length_append, List.length_cons]
    rw [flat_length l (fun y hy => h y (List.mem_cons_of_mem _ hy)), h x (List.mem_cons_self ..), Nat.add_mul]; omega

theorem flat_get {α : Type} {enc : α → List Value} {sz o : Nat} : ∀ (l : List α) (j : Nat) (hj : j < l.length) (sp : List Value), (∀ x ∈ l, (enc x).length = sz) → o < sz →
    ((l.map enc).flatten ++ sp)[j * sz + o]? = (enc (l[j]))[o]?
  | x :: l, 0, _, sp, h, ho => by
    have := h x (List.mem_cons_self ..)
    simp only [List.map_cons, List.flatten_cons, Nat.zero_mul, Nat.zero_add, List.getElem_cons_zero, List.append_assoc]
    rw [List.getElem?_append_left (by omega)]
  | x :: l, j + 1, hj, sp, h, ho => by
    have hx := h x (List.mem_cons_self ..)
    have := flat_get l j (by simpa using hj) sp (fun y hy => h y (List.mem_cons_of_mem _ hy)) ho
    simp only [List.map_cons, List.flatten_cons, List.append_assoc, List.getElem_cons_succ]
    rw [List.getElem?_append_right (by rw [hx, Nat.add_mul]; omega), hx, ← this]
    congr 1
    rw [Nat.add_mul]; omega

theorem flat_set {α : Type} {enc : α → List Value} {sz o : Nat} {v : Value} {x' : α} : ∀ (l : List α) (j : Nat) (hj : j < l.length) (sp : List Value), (∀ x ∈ l, (enc x).length = sz) → o < sz →
    enc x' = (enc (l[j])).set o v → ((l.map enc).flatten ++ sp).set (j * sz + o) v = ((l.set j x').map enc).flatten ++ sp
  | x :: l, 0, _, sp, h, ho, he => by
    have := h x (List.mem_cons_self ..)
    simp only [List.getElem_cons_zero] at he
    simp only [List.map_cons, List.flatten_cons, Nat.zero_mul, Nat.zero_add, List.append_assoc, List.set_cons_zero, he]
    rw [List.set_append_left _ _ (by omega)]
  | x :: l, j + 1, hj, sp, h, ho, he => by
    have hx := h x (List.mem_cons_self ..)
    simp only [List.getElem_cons_succ] at he
    have := flat_set l j (by simpa using hj) sp (fun y hy => h y (List.mem_cons_of_mem _ hy)) ho he
    simp only [List.map_cons, List.flatten_cons, List.append_assoc, List.set_cons_succ]
    rw [List.set_append_right _ _ (by rw [hx, Nat.add_mul]; omega), hx, ← this]
    congr 2
    rw [Nat.add_mul]; omega

theorem flat_sets {α : Type} {enc : α → List Value} {sz : Nat} {x' : α} : ∀ (l : List α) (j : Nat) (_ : j < l.length) (sp : List Value), (∀ x ∈ l, (enc x).length = sz) → (enc x').length = sz →
    setsN ((l.map enc).flatten ++ sp) (j * sz) (enc x') = ((l.set j x').map enc).flatten ++ sp := by
  intro l j hj sp h h'
  have e : l = l.take j ++ l[j] :: l.drop (j + 1) := by simp
  have hl : ((l.take j).map enc).flatten.length = j * sz := by
    rw [flat_length (l.take j) (fun x hx => h x (List.mem_of_mem_take hx))]; simp [Nat.min_eq_left (Nat.le_of_lt hj)]
  have e2 : l.set j x' = l.take j ++ x' :: l.drop (j + 1) := by
    rw [List.set_eq_take_append_cons_drop, if_pos hj]
  have hm : (enc l[j]).length = (enc x').length := by rw [h', h _ (List.getElem_mem hj)]
  have := setsN_append (enc x') ((l.take j).map enc).flatten (enc l[j]) (((l.drop (j + 1)).map enc).flatten ++ sp) hm
  rw [hl] at this
  rw [e2]
  conv => lhs; rw [e]
  simp only [List.map_append, List.map_cons, List.flatten_append, List.flatten_cons, List.append_assoc] at this ⊢
  exact this

/-! ### The chunk -/

def maxI : Nat := 9223372036854775807

/-- The slice value 'v' owns an array of elements of type 'e' ('sz' cells each), which are 'l' (each written as 'enc' says); or it is nil, and 'l' is empty. -/
def sl {α : Type} (v : Value) (enc : α → List Value) (l : List α) (e : TypeId) (sz : Nat) : Chunk where
  holds w D := (∀ x ∈ l, (enc x).length = sz) ∧ ((v = .slice none 0 0 ∧ l = []) ∨
    ∃ b cap sp, v = .slice (some ⟨b, 0, none⟩) l.length cap ∧ D b ∧ cap ≤ maxI ∧ ((l.map enc).flatten ++ sp).length = cap * sz ∧ w.heap[b]? = some (.cells ((l.map enc).flatten ++ sp).toArray e (0, 0)))
  loc w w' D ho hb h := ⟨h.1, h.2.imp id fun ⟨b, cap, sp, h1, h2, h3, h4, h5⟩ => ⟨b, cap, sp, h1, h2, h3, h4, by rw [hb b h2]; exact h5⟩⟩

/-- Where a slice's array lies. -/
class IsAt (v : Value) (b : outParam Nat) : Prop where
  eq : ∃ n cap, v = .slice (some ⟨b, 0, none⟩) n cap

class AtV (cs : List Chunk) (v : Value) {α : outParam Type} (enc : outParam (α → List Value)) (l : outParam (List α)) (e : outParam TypeId) (sz : outParam Nat) : Prop where
  mem : ∃ r, Take1 cs (sl v enc l e sz) r
section
variable {α : Type} {enc : α → List Value} {l : List α} {e : TypeId} {sz : Nat} {v : Value} {c : Chunk} {cs : List Chunk} {b : Nat}
instance atVS [h : AtV cs v enc l e sz] : AtV (c :: cs) v enc l e sz := ⟨let ⟨_, k⟩ := h.mem; ⟨_, tS k⟩⟩
instance atV0 : AtV (sl v enc l e sz :: cs) v enc l e sz := ⟨⟨_, t0⟩⟩
end
class AtP (cs : List Chunk) (b : Nat) (v : outParam Value) {α : outParam Type} (enc : outParam (α → List Value)) (l : outParam (List α)) (e : outParam TypeId) (sz : outParam Nat) : Prop where
  mem : IsAt v b ∧ ∃ r, Take1 cs (sl v enc l e sz) r
section
variable {α : Type} {enc : α → List Value} {l : List α} {e : TypeId} {sz : Nat} {v : Value} {c : Chunk} {cs : List Chunk} {b : Nat}
instance atPS [h : AtP cs b v enc l e sz] : AtP (c :: cs) b v enc l e sz := ⟨let ⟨h0, _, k⟩ := h.mem; ⟨h0, _, tS k⟩⟩
instance atP0 [h : IsAt v b] : AtP (sl v enc l e sz :: cs) b v enc l e sz := ⟨⟨h, _, t0⟩⟩
end
/-- 'cs'' is 'cs' with the slice's elements 'l' turned into 'l''. -/
class UpV (cs : List Chunk) (v : Value) {α : Type} (enc : α → List Value) (l l' : List α) (e : TypeId) (sz : Nat) (cs' : outParam (List Chunk)) : Prop where
  mem : ∃ r, Take1 cs (sl v enc l e sz) r ∧ Take1 cs' (sl v enc l' e sz) r
section
variable {α : Type} {enc : α → List Value} {l l' : List α} {e : TypeId} {sz : Nat} {v : Value} {c : Chunk} {cs cs' : List Chunk}
instance upVS [h : UpV cs v enc l l' e sz cs'] : UpV (c :: cs) v enc l l' e sz (c :: cs') := ⟨let ⟨_, k, k'⟩ := h.mem; ⟨_, tS k, tS k'⟩⟩
instance upV0 : UpV (sl v enc l e sz :: cs) v enc l l' e sz (sl v enc l' e sz :: cs) := ⟨⟨_, t0, t0⟩⟩

theorem slice_inj {b b' n n' c c' : Nat} (h : Value.slice (some ⟨b, 0, none⟩) n c = Value.slice (some ⟨b', 0, none⟩) n' c') : b = b' ∧ n = n' ∧ c = c' := by simpa using h

theorem sl_get {w : World} {r : List Chunk} (h : Sat (sl v enc l e sz :: r) w) : (∀ x ∈ l, (enc x).length = sz) ∧ ((v = .slice none 0 0 ∧ l = []) ∨
    ∃ b cap sp, v = .slice (some ⟨b, 0, none⟩) l.length cap ∧ b < w.heap.size ∧ cap ≤ maxI ∧ ((l.map enc).flatten ++ sp).length = cap * sz ∧ w.heap[b]? = some (.cells ((l.map enc).flatten ++ sp).toArray e (0, 0))) := by
  obtain ⟨D1, D2, h1, h2, h3, ⟨h4, h4'⟩, h5⟩ := h
  refine ⟨h4, h4'.imp id fun ⟨b, cap, sp, k1, k2, k3, k4, k5⟩ => ⟨b, cap, sp, k1, h1 b k2, k3, k4, k5⟩⟩

/-- What is known of a slice that has elements. -/
theorem sl_ne {w : World} {r : List Chunk} (h : Sat (sl v enc l e sz :: r) w) {j : Nat} (hj : j < l.length) : (∀ x ∈ l, (enc x).length = sz) ∧
    ∃ b cap sp, v = .slice (some ⟨b, 0, none⟩) l.length cap ∧ b < w.heap.size ∧ cap ≤ maxI ∧ ((l.map enc).flatten ++ sp).length = cap * sz ∧ w.heap[b]? = some (.cells ((l.map enc).flatten ++ sp).toArray e (0, 0)) := by
  obtain ⟨h1, h2⟩ := sl_get h
  rcases h2 with ⟨_, rfl⟩ | h2
  · simp at hj
  · exact ⟨h1, h2⟩

/-- Its cells turned. -/
theorem sl_set {w w' : World} {r : List Chunk} (h : Sat (sl v enc l e sz :: r) w) {b cap : Nat} {sp' : List Value} (hv : v = .slice (some ⟨b, 0, none⟩) l.length cap) (hll : l'.length = l.length)
    (hel : ∀ x ∈ l', (enc x).length = sz) (ho : SameOut w w') (hsz : w'.heap.size = w.heap.size) (hcap : cap ≤ maxI) (hlen : ((l'.map enc).flatten ++ sp').length = cap * sz)
    (hb : w'.heap[b]? = some (.cells ((l'.map enc).flatten ++ sp').toArray e (0, 0))) (hk : ∀ k, k ≠ b → w'.heap[k]? = w.heap[k]?) : Sat (sl v enc l' e sz :: r) w' := by
  refine h.upd ho (by omega) fun D hD hl => ?_
  obtain ⟨h1, h2⟩ := hD
  rcases h2 with ⟨h2, _⟩ | ⟨b2, cap2, sp2, k1, k2, k3, k4, k5⟩
  · rw [h2] at hv; cases hv
  · have hbb : b2 = b := by rw [k1] at hv; exact (slice_inj hv).1
    subst hbb
    refine ⟨fun k _ hn => hk k (fun he => hn (he ▸ k2)), fun k => k = b2, fun k hkb => ?_, hel, .inr ⟨b2, cap, sp', by rw [hv, hll], rfl, hcap, hlen, hb⟩⟩
    subst hkb; exact ⟨hsz ▸ hl k k2, .inl k2⟩
end

/-- The nil slice. -/
theorem sl_nil {α : Type} {enc : α → List Value} {e : TypeId} {sz : Nat} {cs : List Chunk} {w : World} (h : Sat cs w) : Sat (sl (.slice none 0 0) enc [] e sz :: cs) w :=
  ⟨fun _ => False, fun b => b < w.heap.size, fun _ x => x.elim, fun _ x => x, fun _ x _ => x.elim, ⟨fun x hx => absurd hx List.not_mem_nil, .inl ⟨rfl, rfl⟩⟩, h⟩

/-- The elements of a slice type. -/
theorem elemI.run {P : Program} {t e : TypeId} {sz by_ : Nat} (h : elemI P t = some (e, sz, by_)) : P.underlying t = some (.slice e) ∧ ∃ i, P.info? e = some i ∧ i.size = sz ∧ i.bytes = by_ := by
  unfold elemI at h
  split at h
  · rename_i e' hu
    cases hi : P.info? e' with
    | none => rw [hi] at h; cases h
    | some i =>
      rw [hi] at h
      simp only [Option.map_some, Option.some.injEq, Prod.mk.injEq] at h
      obtain ⟨rfl, h2, h3⟩ := h
      exact ⟨hu, i, hi, h2, h3⟩
  · cases h

section
variable {P : Program} {N : Nat} {Q : Exit → Act → World → Prop} {L L' : List (Nat × Value)} {cs cs' : List Chunk} {ops : Array Oper} {l : List Oper}
variable {d : Nat} {ty : TypeId} {pos : String} {af : Array Edge} {g : Option (Nat × Bool)}
variable {α : Type} {enc : α → List Value} {xs : List α} {e : TypeId} {sz : Nat} {v : Value}

/-- 'len(s)'. -/
theorem XL.lenS {t : TypeId} {x : Operand} {ei : TypeId × Nat × Nat} (ht : elemI P t = some ei) (hx : ev L x = some v) [hv : AtV cs v enc xs e sz]
    (hc : chk ops L N d g = true) (k : XL P N ops Q l ((d, .int .i64 (xs.length : Int)) :: L) cs) : XL P N ops Q (⟨some d, .call ⟨.builtin .len, #[x], #[t]⟩, ty, pos, af, g⟩ :: l) L cs :=
  XL.stepV rfl hc (fun a w hm hs => ⟨w, by
    obtain ⟨e', sz', by'⟩ := ei
    have hu := (elemI.run ht).1
    obtain ⟨r, hr⟩ := hv.mem
    obtain ⟨_, h2⟩ := sl_get (hs.perm hr)
    rcases h2 with ⟨rfl, rfl⟩ | ⟨b, cap, sp, rfl, _⟩ <;>
      simp [execOp, resolve, invoke, builtin, Builtin.len_, hm.eval hx, run_underlying hu, goInt], hs⟩) k

/-- '&s[i]'. -/
theorem XL.ixS {t : TypeId} {x i : Operand} {kd : IntKind} {n : Int} {by_ : Nat} (j : Nat) (ht : elemI P t = some (e, sz, by_)) (hx : ev L x = some v) [hv : AtV cs v enc xs e sz] (hi : ev L i = some (.int kd n)) (hn : n = (j : Int)) (hj : j < xs.length)
    (hc : chk ops L N d g = true) (k : ∀ b, IsAt v b → XL P N ops Q l ((d, .pointer (some ⟨b, j * sz, none⟩)) :: L) cs) : XL P N ops Q (⟨some d, .indexAddr t x i, ty, pos, af, g⟩ :: l) L cs :=
  XL.stepE (α := { b : Nat // IsAt v b }) (v := fun b => .pointer (some ⟨b.1, j * sz, none⟩)) (cx := fun _ => cs) rfl hc (fun a w hm hs => by
    subst hn
    obtain ⟨hu, inf, hinf, hsz, _⟩ := elemI.run ht
    obtain ⟨r, hr⟩ := hv.mem
    obtain ⟨_, b, cap, sp, hvv, _⟩ := sl_ne (hs.perm hr) hj
    refine ⟨⟨b, ⟨_, _, hvv⟩⟩, w, ?_, hs⟩
    have h0 : (0 : Int) ≤ (j : Int) ∧ (j : Int) < (xs.length : Int) := by omega
    simp only [execOp, hm.eval hx, hm.eval hi, hvv, Instr.indexAt, Sem.run_bind, asIntOf, Sem.run_pure, Result.andThen_ok, run_underlying hu]
    rw [if_pos h0]
    simp [sizeOf, typeInfo, hinf, hsz, add_none]) (fun z => k z.1 z.2)

theorem sl_one {w : World} {r : List Chunk} (h : Sat (sl v enc xs e sz :: r) w) : OneV v := by
  rcases (sl_get h).2 with ⟨rfl, _⟩ | ⟨b, cap, sp, rfl, _⟩ <;> exact ⟨rfl⟩
/-- A slice is a value of one cell. -/
theorem XC.oneV {c : Code} (v : Value) [hv : AtV cs v enc xs e sz] (h : OneV v → XC P N Q c L cs) : XC P N Q c L cs := fun a w hm hs => by
  obtain ⟨r, hr⟩ := hv.mem
  exact h (sl_one (hs.perm hr)) a w hm hs

/-- Where a slice that has elements lies. -/
theorem XC.isAt {c : Code} (v : Value) [hv : AtV cs v enc xs e sz] (j : Nat) (hj : j < xs.length) (h : ∀ b, IsAt v b → XC P N Q c L cs) : XC P N Q c L cs := fun a w hm hs => by
  obtain ⟨r, hr⟩ := hv.mem
  obtain ⟨_, b, cap, sp, hvv, _⟩ := sl_ne (hs.perm hr) hj
  exact h b ⟨_, _, hvv⟩ a w hm hs

/-- '&s[i]', where it is known where the array lies. -/
theorem XL.ixB {t : TypeId} {x i : Operand} {kd : IntKind} {n : Int} {by_ b : Nat} (j : Nat) (ht : elemI P t = some (e, sz, by_)) (hx : ev L x = some v) [hv : AtV cs v enc xs e sz] [hb : IsAt v b] (hi : ev L i = some (.int kd n)) (hn : n = (j : Int)) (hj : j < xs.length)
    (hc : chk ops L N d g = true) (k : XL P N ops Q l ((d, .pointer (some ⟨b, j * sz, none⟩)) :: L) cs) : XL P N ops Q (⟨some d, .indexAddr t x i, ty, pos, af, g⟩ :: l) L cs :=
  XL.stepV rfl hc (fun a w hm hs => by
    subst hn
    obtain ⟨hu, inf, hinf, hsz, _⟩ := elemI.run ht
    obtain ⟨r, hr⟩ := hv.mem
    obtain ⟨_, b', cap, sp, hvv, _⟩ := sl_ne (hs.perm hr) hj
    obtain ⟨n0, cap0, h0⟩ := hb.eq
    have hbb : b' = b := by rw [hvv] at h0; exact (slice_inj h0).1
    subst hbb
    refine ⟨w, ?_, hs⟩
    have h0 : (0 : Int) ≤ (j : Int) ∧ (j : Int) < (xs.length : Int) := by omega
    simp only [execOp, hm.eval hx, hm.eval hi, hvv, Instr.indexAt, Sem.run_bind, asIntOf, Sem.run_pure, Result.andThen_ok, run_underlying hu]
    rw [if_pos h0]
    simp [sizeOf, typeInfo, hinf, hsz, add_none]) k

section
variable {x y : Operand} {t : TypeId} {b : Nat}
theorem AtP.cellsAt {w : World} (h : AtP cs b v enc xs e sz) (hs : Sat cs w) {j : Nat} (hj : j < xs.length) : (∀ x ∈ xs, (enc x).length = sz) ∧ ∃ sp, w.heap[b]? = some (.cells ((xs.map enc).flatten ++ sp).toArray e (0, 0)) := by
  obtain ⟨⟨n, cap0, h0⟩, r, hr⟩ := h.mem
  obtain ⟨h1, b', cap, sp, hv, _, _, _, h3⟩ := sl_ne (hs.perm hr) hj
  rw [h0] at hv
  obtain ⟨rfl, _⟩ := slice_inj hv
  exact ⟨h1, sp, h3⟩

/-- 's[i]', an element of one cell. -/
theorem XL.ldS1 {j : Nat} {u : Value} (ht : one P t = true) (hx : ev L x = some (.pointer (some ⟨b, j * sz, none⟩))) [h : AtP cs b v enc xs e sz] (hj : j < xs.length) (hu : enc (xs[j]) = [u])
    (hc : chk ops L N d g = true) (k : XL P N ops Q l ((d, u) :: L) cs) : XL P N ops Q (⟨some d, .load t x, ty, pos, af, g⟩ :: l) L cs :=
  XL.stepV rfl hc (fun a w hm hs => ⟨w, by
    obtain ⟨h1, sp, h2⟩ := h.cellsAt hs hj
    have hsz : sz = 1 := by rw [← h1 _ (List.getElem_mem hj), hu]; rfl
    have h3 := flat_get xs j hj sp h1 (o := 0) (by omega)
    simp only [execOp, hm.eval hx]
    rw [Sem.run_bind, run_load1 ht (v := u) (by rw [cell_at h2]; simpa [hu] using h3)]; rfl, hs⟩) k

/-- 's[i].f', a field of one cell. -/
theorem XL.ldSf {j o : Nat} {u : Value} (ht : one P t = true) (hx : ev L x = some (.pointer (some ⟨b, j * sz + o, none⟩))) [h : AtP cs b v enc xs e sz] (hj : j < xs.length) (hu : (enc (xs[j]))[o]? = some u)
    (hc : chk ops L N d g = true) (k : XL P N ops Q l ((d, u) :: L) cs) : XL P N ops Q (⟨some d, .load t x, ty, pos, af, g⟩ :: l) L cs :=
  XL.stepV rfl hc (fun a w hm hs => ⟨w, by
    obtain ⟨h1, sp, h2⟩ := h.cellsAt hs hj
    have ho : o < sz := by rw [← h1 _ (List.getElem_mem hj)]; exact (List.getElem?_eq_some_iff.1 hu).1
    have h3 := flat_get xs j hj sp h1 (o := o) ho
    simp only [execOp, hm.eval hx]
    rw [Sem.run_bind, run_load1 ht (v := u) (by rw [cell_at h2]; simpa [hu] using h3)]; rfl, hs⟩) k

/-- 's[i]', a struct. -/
theorem XL.ldSN {j : Nat} (ht : aggN P t = some sz) (hx : ev L x = some (.pointer (some ⟨b, j * sz, none⟩))) [h : AtP cs b v enc xs e sz] (hj : j < xs.length)
    (hc : chk ops L N d g = true) (k : XL P N ops Q l ((d, .agg (enc (xs[j])).toArray) :: L) cs) : XL P N ops Q (⟨some d, .load t x, ty, pos, af, g⟩ :: l) L cs :=
  XL.stepV rfl hc (fun a w hm hs => ⟨w, by
    obtain ⟨h1, sp, h2⟩ := h.cellsAt hs hj
    have hl := h1 _ (List.getElem_mem hj)
    simp only [execOp, hm.eval hx]
    rw [Sem.run_bind, run_loadN ht hl (fun o u ho => by
      have hlt : o < sz := by rw [← hl]; exact (List.getElem?_eq_some_iff.1 ho).1
      rw [cell_at h2]
      have h3 := flat_get xs j hj sp h1 hlt
      simpa [ho] using h3)]
    rfl, hs⟩) k

theorem AtP.storeAt {w w' : World} {j : Nat} {x' : α} (h : AtP cs b v enc xs e sz) (hu : UpV cs v enc xs (xs.set j x') e sz cs') (hs : Sat cs w) (hj : j < xs.length) (hx : (enc x').length = sz) (ho : SameOut w w') (hsz : w'.heap.size = w.heap.size)
    (hb : ∀ sp, w.heap[b]? = some (.cells ((xs.map enc).flatten ++ sp).toArray e (0, 0)) → w'.heap[b]? = some (.cells (((xs.set j x').map enc).flatten ++ sp).toArray e (0, 0))) (hk : ∀ k, k ≠ b → w'.heap[k]? = w.heap[k]?) : Sat cs' w' := by
  obtain ⟨⟨n, cap0, h0⟩, _⟩ := h.mem
  obtain ⟨r, h1, h2⟩ := hu.mem
  obtain ⟨hl, b', cap, sp, hv, hlt, hcap, hlen, hh⟩ := sl_ne (hs.perm h1) hj
  have eb : b' = b := by rw [h0] at hv; exact (slice_inj hv).1.symm
  subst eb
  have hel : ∀ y ∈ xs.set j x', (enc y).length = sz := fun y hy => by
    rcases List.mem_or_eq_of_mem_set hy with h | rfl
    · exact hl y h
    · exact hx
  have hfl : (((xs.set j x').map enc).flatten ++ sp).length = cap * sz := by
    rw [List.length_append, flat_length _ hel]
    rw [List.length_append, flat_length _ hl] at hlen
    simpa using hlen
  exact (sl_set (hs.perm h1) hv (by simp) hel ho hsz hcap hfl (hb _ hh) hk).perm h2.symm

/-- 's[i] = y', an element of one cell. -/
theorem XL.stS1 {j : Nat} {u : Value} (x' : α) (ht : one P t = true) (hx : ev L x = some (.pointer (some ⟨b, j * 1, none⟩))) (hy : ev L y = some u) [h1' : OneV u] [h : AtP cs b v enc xs e 1] (hj : j < xs.length) (hu : enc x' = [u])
    [hup : UpV cs v enc xs (xs.set j x') e 1 cs'] (hc : wOk ops L g = true) (k : XL P N ops Q l L cs') : XL P N ops Q (⟨none, .store t x y, ty, pos, af, g⟩ :: l) L cs :=
  XL.stepU rfl hc (fun a w hm hs => by
    have h1 := h1'.eq
    obtain ⟨hl, sp, h2⟩ := h.cellsAt hs hj
    have hlen := hl _ (List.getElem_mem hj)
    have h3 := flat_get xs j hj sp hl (o := 0) (by omega)
    obtain ⟨u0, hu0⟩ : ∃ u0, enc xs[j] = [u0] := List.length_eq_one_iff.1 hlen
    have hcell : w.cell? ⟨b, j * 1, none⟩ = some u0 := by rw [cell_at h2]; simpa [hu0] using h3
    have hf : w.frozen? ⟨b, j * 1, none⟩ = false := by simp [World.frozen?, h2]
    refine ⟨_, by simp only [execOp, hm.eval hx, hm.eval hy]; rw [Sem.run_bind, run_store1 ht h1 hcell hf]; rfl, ?_⟩
    refine AtP.storeAt (w' := w.setCell ⟨b, j * 1, none⟩ u) h hup hs hj (by rw [hu]; rfl) ⟨rfl, rfl, rfl⟩ (by simp) (fun sp' h4 => ?_) (fun k hk => heap_set_other hk)
    rw [heap_set h4]
    have h5 := flat_set (v := u) (x' := x') (o := 0) xs j hj sp' hl (by omega) (by rw [hu, hu0]; rfl)
    simp only [Nat.add_zero] at h5
    rw [← h5]
    simp) k

/-- 's[i].f = y', a field of one cell. -/
theorem XL.stSf {j o : Nat} {u : Value} (x' : α) (ht : one P t = true) (hx : ev L x = some (.pointer (some ⟨b, j * sz + o, none⟩))) (hy : ev L y = some u) [h1' : OneV u] [h : AtP cs b v enc xs e sz] (hj : j < xs.length) (ho : o < sz) (hu : enc x' = (enc (xs[j])).set o u)
    [hup : UpV cs v enc xs (xs.set j x') e sz cs'] (hc : wOk ops L g = true) (k : XL P N ops Q l L cs') : XL P N ops Q (⟨none, .store t x y, ty, pos, af, g⟩ :: l) L cs :=
  XL.stepU rfl hc (fun a w hm hs => by
    have h1 := h1'.eq
    obtain ⟨hl, sp, h2⟩ := h.cellsAt hs hj
    have hlen := hl _ (List.getElem_mem hj)
    have h3 := flat_get xs j hj sp hl ho
    have h3' : (enc xs[j])[o]? = some ((enc xs[j])[o]'(by omega)) := List.getElem?_eq_getElem _
    have hcell : w.cell? ⟨b, j * sz + o, none⟩ = some ((enc xs[j])[o]'(by omega)) := by rw [cell_at h2, ← h3', ← h3]; simp
    have hf : w.frozen? ⟨b, j * sz + o, none⟩ = false := by simp [World.frozen?, h2]
    refine ⟨_, by simp only [execOp, hm.eval hx, hm.eval hy]; rw [Sem.run_bind, run_store1 ht h1 hcell hf]; rfl, ?_⟩
    refine AtP.storeAt (w' := w.setCell ⟨b, j * sz + o, none⟩ u) h hup hs hj (by rw [hu]; simpa using hlen) ⟨rfl, rfl, rfl⟩ (by simp) (fun sp' h4 => ?_) (fun k hk => heap_set_other hk)
    rw [heap_set h4, ← flat_set (v := u) (x' := x') (o := o) xs j hj sp' hl ho hu]
    simp) k

/-- 's[i] = y', a struct. -/
theorem XL.stSN {j : Nat} {us : List Value} (x' : α) (ht : aggN P t = some sz) (hx : ev L x = some (.pointer (some ⟨b, j * sz, none⟩))) (hy : ev L y = some (.agg us.toArray)) [h1 : OneVs us] [h : AtP cs b v enc xs e sz] (hj : j < xs.length)
    (hu : enc x' = us) (hus : us.length = sz) [hup : UpV cs v enc xs (xs.set j x') e sz cs'] (hc : wOk ops L g = true) (k : XL P N ops Q l L cs') : XL P N ops Q (⟨none, .store t x y, ty, pos, af, g⟩ :: l) L cs :=
  XL.stepU rfl hc (fun a w hm hs => by
    obtain ⟨hl, sp, h2⟩ := h.cellsAt hs hj
    have hfit : j * sz + sz ≤ ((xs.map enc).flatten ++ sp).length := by
      rw [List.length_append, flat_length _ hl]
      have : (j + 1) * sz ≤ xs.length * sz := Nat.mul_le_mul_right _ hj
      rw [Nat.add_mul] at this; omega
    obtain ⟨w', hr, ho, hsz, hk, hb⟩ := run_storeN (P := P) (o := j * sz) ht hus h1.eq h2 hfit
    refine ⟨w', by simp only [execOp, hm.eval hx, hm.eval hy]; rw [Sem.run_bind, hr]; rfl, ?_⟩
    refine AtP.storeAt h hup hs hj (by rw [hu, hus]) ho hsz (fun sp' h4 => ?_) hk
    have hsp : sp' = sp := by
      rw [h2] at h4
      simpa using h4.symm
    rw [hb, hsp]
    have := flat_sets xs j hj sp hl (x' := x') (by rw [hu, hus])
    rw [hu] at this
    rw [this]) k
end
end
end Go.Sx
