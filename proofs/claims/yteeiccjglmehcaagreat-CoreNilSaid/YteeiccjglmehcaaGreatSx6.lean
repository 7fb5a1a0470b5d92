/-
  The calculus Sx, part 6: structs and slices that are built out of parts; copies.
-/
import Derived.Test.YteeiccjglmehcaaGreatSx5
namespace Go.Sx
open Go

/-- A struct type's places: offset and cells of each field. -/
def plc (P : Program) (t : TypeId) : Option (List (Nat × Nat)) :=
  match P.underlying t with
  | some (.struct fs) => fs.toList.mapM fun f => (P.info? f.type).map fun i => (f.offset, i.size)
  | _ => none

def fillL (ps : List (Nat × Nat)) : List Value → List (Nat × Value) → Option (List Value)
  | cells, [] => some cells
  | cells, (i, v) :: r => match ps[i]? with
    | some (off, size) => bif Nat.beq v.cells.toList.length size && Nat.ble (off + size) cells.length then fillL ps (setsN cells off v.cells.toList) r else none
    | none => none

theorem foldl_sets : ∀ (vs : List Value) (k off : Nat) (cells : List Value), (vs.zipIdx k).foldl (fun (cs : Array Value) (x : Value × Nat) => cs.setIfInBounds (off + x.2) x.1) cells.toArray = (setsN cells (off + k) vs).toArray
  | [], _, _, _ => rfl
  | v :: vs, k, off, cells => by
    simp only [List.zipIdx_cons, List.foldl_cons, setsN, List.setIfInBounds_toArray]
    exact foldl_sets vs (k + 1) off _

theorem fillL.run {place : Nat → Option (Nat × Nat)} {ps : List (Nat × Nat)} (hp : ∀ i x, ps[i]? = some x → place i = some x) : ∀ (parts : List (Nat × Value)) (cells out : List Value), fillL ps cells parts = some out → Instr.fill place cells.toArray parts = some out.toArray
  | [], cells, out, h => by
    obtain rfl : cells = out := by simpa [fillL] using h
    rfl
  | (i, v) :: r, cells, out, h => by
    simp only [fillL] at h
    cases hi : ps[i]? with
    | none => rw [hi] at h; cases h
    | some x =>
      obtain ⟨off, size⟩ := x
      rw [hi] at h
      simp only [Instr.fill, hp i _ hi]
      simp only at h ⊢
      cases hb : (Nat.beq v.cells.toList.length size && Nat.ble (off + size) cells.length) with
      | false => rw [hb] at h; cases h
      | true =>
        rw [hb] at h
        simp only [Bool.and_eq_true] at hb
        have h1 := Nat.eq_of_beq_eq_true hb.1
        have h2 := Nat.le_of_ble_eq_true hb.2
        have h1' : v.cells.size = size := by rw [← h1]; simp
        have hcond : (decide (v.cells.size ≠ size) || decide (off + v.cells.size > cells.toArray.size)) = false := by
          rw [h1']; simp; omega
        have hfold : v.cells.zipIdx.foldl (fun (cs : Array Value) (x : Value × Nat) => cs.setIfInBounds (off + x.2) x.1) cells.toArray = (setsN cells off v.cells.toList).toArray := by
          have := foldl_sets v.cells.toList 0 off cells
          rw [Nat.add_zero] at this
          rw [← this, ← Array.foldl_toList, Array.toList_zipIdx]
        rw [if_neg (by rw [hcond]; decide)]
        have := fillL.run hp r _ _ h
        rw [← hfold] at this
        exact this

/-! The same, found by itself where a part is a value of one cell that is not written out. -/
class PlcAt (ps : List (Nat × Nat)) (i : Nat) (off size : outParam Nat) : Prop where
  eq : ps[i]? = some (off, size)
instance plcAt0 {o s : Nat} {ps : List (Nat × Nat)} : PlcAt ((o, s) :: ps) 0 o s := ⟨rfl⟩
instance plcAtS {i o s : Nat} {x : Nat × Nat} {ps : List (Nat × Nat)} [h : PlcAt ps i o s] : PlcAt (x :: ps) (i + 1) o s := ⟨by simpa using h.eq⟩
class LenN (l : List Value) (n : Nat) : Prop where
  eq : l.length = n
instance lenN0 : LenN [] 0 := ⟨rfl⟩
instance lenNS {v : Value} {l : List Value} {n : Nat} [h : LenN l n] : LenN (v :: l) (n + 1) := ⟨by simp [h.eq]⟩
class SetsAt (l : List Value) (o : Nat) (vs : List Value) (l' : outParam (List Value)) : Prop where
  eq : o + vs.length ≤ l.length ∧ l' = setsN l o vs
instance setsAt0 {l : List Value} {o : Nat} {v : Value} {l' : List Value} [h : SetAt l o v l'] : SetsAt l o [v] l' := ⟨⟨h.eq.1, h.eq.2⟩⟩
instance setsAtS {l l1 l' : List Value} {o : Nat} {v u : Value} {vs : List Value} [h : SetAt l o v l1] [k : SetsAt l1 (o + 1) (u :: vs) l'] : SetsAt l o (v :: u :: vs) l' :=
  ⟨by have h1 := k.eq.1; have h2 := h.eq.2; subst h2; simp at h1 ⊢; omega, by rw [k.eq.2, h.eq.2]; rfl⟩
class FillC (ps : List (Nat × Nat)) (cells : List Value) (parts : List (Nat × Value)) (out : outParam (List Value)) : Prop where
  eq : fillL ps cells parts = some out
instance fillC0 {ps : List (Nat × Nat)} {cells : List Value} : FillC ps cells [] cells := ⟨rfl⟩
instance fillC1 {ps : List (Nat × Nat)} {cells cells' out : List Value} {i off : Nat} {v : Value} {r : List (Nat × Value)} [hp : PlcAt ps i off 1] [ho : OneV v] [hs : SetAt cells off v cells'] [hf : FillC ps cells' r out] : FillC ps cells ((i, v) :: r) out := ⟨by
  have h1 : v.cells.toList = [v] := by rw [oneC.cells ho.eq]
  have h2 : Nat.ble (off + 1) cells.length = true := Nat.ble_eq_true_of_le hs.eq.1
  simp only [fillL, hp.eq, h1]
  have h3 : Nat.beq [v].length 1 = true := rfl
  rw [h3, h2]
  have h4 : setsN cells off [v] = cells' := hs.eq.2.symm
  simp only [Bool.and_self, cond_true, h4]
  exact hf.eq⟩
instance fillCN {ps : List (Nat × Nat)} {cells cells' out : List Value} {i off n : Nat} {vs : List Value} {r : List (Nat × Value)} [hp : PlcAt ps i off n] [hl : LenN vs n] [hs : SetsAt cells off vs cells'] [hf : FillC ps cells' r out] : FillC ps cells ((i, .agg vs.toArray) :: r) out := ⟨by
  have h1 : (Value.agg vs.toArray).cells.toList = vs := rfl
  have h2 : Nat.ble (off + n) cells.length = true := Nat.ble_eq_true_of_le (by rw [← hl.eq]; exact hs.eq.1)
  have h3 : Nat.beq vs.length n = true := by rw [hl.eq]; exact Nat.beq_refl n
  simp only [fillL, hp.eq, h1, h2, h3, Bool.and_self, cond_true, ← hs.eq.2]
  exact hf.eq⟩

def evp (L : List (Nat × Value)) : List (Nat × Operand) → Option (List (Nat × Value))
  | [] => some []
  | (i, x) :: xs => match ev L x, evp L xs with
    | some v, some vs => some ((i, v) :: vs)
    | _, _ => none

section
variable {P : Program} {N : Nat} {Q : Exit → Act → World → Prop} {L L' : List (Nat × Value)} {cs cs' : List Chunk} {ops : Array Oper} {l : List Oper}
variable {d : Nat} {ty : TypeId} {pos : String} {af : Array Edge} {g : Option (Nat × Bool)}

theorem evp.map {a : Act} (hm : Mat N L a) : ∀ {xs : List (Nat × Operand)} {vs : List (Nat × Value)}, evp L xs = some vs → xs.map (fun (p : Nat × Operand) => (p.1, a.eval p.2)) = vs
  | [], vs, h => by simp [evp] at h; simp [h]
  | (i, x) :: xs, vs, h => by
    simp only [evp] at h
    split at h
    · rename_i v us h1 h2
      obtain rfl := by simpa using h
      simp [hm.eval h1, evp.map hm h2]
    · cases h

theorem plc.run {t : TypeId} {ps : List (Nat × Nat)} (h : plc P t = some ps) (w : World) : ∃ fs, P.underlying t = some (.struct fs) ∧ (fs.mapM fun f => (do pure (f.offset, ← sizeOf f.type) : Sem (Nat × Nat))).run P w = .ok ps.toArray w := by
  unfold plc at h
  split at h
  · rename_i fs hu
    refine ⟨fs, hu, ?_⟩
    have key : ∀ (l : List Field) (ps : List (Nat × Nat)), (l.mapM fun f => (P.info? f.type).map fun i => (f.offset, i.size)) = some ps → (l.mapM fun f => (do pure (f.offset, ← sizeOf f.type) : Sem (Nat × Nat))).run P w = .ok ps w := by
      intro l
      induction l with
      | nil => intro ps h; simp at h; simp [h]
      | cons f l ih =>
        intro ps h
        rw [List.mapM_cons] at h
        cases hi : P.info? f.type with
        | none => rw [hi] at h; simp at h
        | some i =>
          rw [hi] at h
          cases hl : (l.mapM fun f => (P.info? f.type).map fun i => (f.offset, i.size)) with
          | none => rw [hl] at h; simp at h
          | some qs =>
            rw [hl] at h
            obtain rfl : (f.offset, i.size) :: qs = ps := by simpa using h
            have := ih qs hl
            rw [List.mapM_cons, Sem.run_bind, Sem.run_bind]
            simp only [sizeOf, typeInfo, Sem.run_bind, run_program, Result.andThen_ok, hi, Sem.run_pure]
            simp only [sizeOf, typeInfo] at this
            rw [this]; rfl
    have e : fs = fs.toList.toArray := by simp
    rw [e, List.mapM_toArray, Sem.run_map, key _ _ h]
    rfl
  · cases h

/-- 'T{..}'. -/
theorem XL.bd {t : TypeId} {parts : List (Nat × Operand)} {vs : List (Nat × Value)} {zs out : List Value} {ps : List (Nat × Nat)} (hz : zeroC P t = some zs) (hp : plc P t = some ps) (hx : evp L parts = some vs) [hf' : FillC ps zs vs out]
    (hc : chk ops L N d g = true) (k : XL P N ops Q l ((d, .agg out.toArray) :: L) cs) : XL P N ops Q (⟨some d, .build t parts.toArray, ty, pos, af, g⟩ :: l) L cs :=
  XL.stepP rfl hc (fun a w hm => by
    have hf := hf'.eq
    obtain ⟨z, hz1, hz2⟩ := zeroC.run hz w
    obtain ⟨fs, hu, hps⟩ := plc.run hp w
    have e : (parts.toArray.map fun (p : Nat × Operand) => (p.1, a.eval p.2)).toList = vs := by simp [evp.map hm hx]
    have hfill := fillL.run (place := fun i => ps.toArray[i]?) (ps := ps) (fun i x h => by simpa using h) vs zs out hf
    have e2 : (parts.toArray.map fun (p : Nat × Operand) => (p.1, a.eval p.2)) = vs.toArray := by apply Array.ext'; rw [e]
    simp only [execOp, Instr.build, Sem.run_bind, hz1, Result.andThen_ok, hz2, run_underlying hu, hps, e2, hfill, Sem.run_pure]) k

/-- '[]T{..}'. -/
theorem XL.bs {α : Type} {enc : α → List Value} (xs : List α) {t e : TypeId} {sz by_ n : Nat} {parts : List (Nat × Operand)} {vs : List (Nat × Value)} {zs : List Value} (ht : elemI P t = some (e, sz, by_)) (hz : zeroC P e = some zs) (hx : evp L parts = some vs)
    (hn : (Nat.beq xs.length n && (Nat.ble 1 sz && (Nat.beq zs.length sz && Nat.ble (n * sz) 16777216))) = true)
    (hf : fillL ((List.range n).map fun i => (i * sz, sz)) (List.replicate n zs).flatten vs = some ((xs.map enc).flatten)) (he : ∀ x ∈ xs, (enc x).length = sz)
    (hc : chk ops L N d g = true) (k : ∀ v, OneV v → XL P N ops Q l ((d, v) :: L) (sl v enc xs e sz :: cs)) : XL P N ops Q (⟨some d, .buildSlice t n parts.toArray, ty, pos, af, g⟩ :: l) L cs :=
  XL.stepS rfl hc (fun a w hm hs => by
    simp only [Bool.and_eq_true] at hn
    obtain ⟨hn1, hn2, hn3, hn4⟩ := hn
    have hn1 := Nat.eq_of_beq_eq_true hn1
    have hn2 := Nat.le_of_ble_eq_true hn2
    have hn3 := Nat.eq_of_beq_eq_true hn3
    have hn4 := Nat.le_of_ble_eq_true hn4
    obtain ⟨hu, inf, hinf, hsz, hbi⟩ := elemI.run ht
    obtain ⟨z0, hz0, hz1⟩ := zeroC.run hz w
    have e2 : (parts.toArray.map fun (p : Nat × Operand) => (p.1, a.eval p.2)) = vs.toArray := by apply Array.ext'; simp [evp.map hm hx]
    have hfl : (List.replicate n zs).flatten.length = n * sz := by simp [hn3]
    have hcells : ((Array.range (n * sz)).map (zs.toArray[· % zs.toArray.size]!)) = ((List.replicate n zs).flatten).toArray := by
      apply Array.ext
      · simp only [Array.size_map, Array.size_range, List.size_toArray, hfl]
      · intro i h1 h2
        have hi : i < n * sz := by simpa using h1
        have hj : i / sz < n := Nat.div_lt_of_lt_mul (by rw [Nat.mul_comm]; exact hi)
        have hm1 : i % sz < sz := Nat.mod_lt _ (by omega)
        have hg := flat_get (enc := fun x : List Value => x) (sz := sz) (o := i % sz) (List.replicate n zs) (i / sz) (by simpa using hj) [] (fun x hx => by rw [List.eq_of_mem_replicate hx, hn3]) hm1
        rw [show i / sz * sz + i % sz = i by rw [Nat.mul_comm]; exact Nat.div_add_mod i sz, List.map_id', List.append_nil] at hg
        have h3 : (((List.replicate n zs).flatten).toArray)[i]? = some (zs[i % sz]'(by omega)) := by
          rw [List.getElem?_toArray, hg]
          simp only [List.getElem_replicate]
          exact List.getElem?_eq_getElem _
        rw [Array.getElem?_eq_getElem h2] at h3
        rw [Option.some.inj h3]
        simp [hn3, hm1]
    have hfill := fillL.run (place := fun i => some (i * sz, sz)) (ps := (List.range n).map fun i => (i * sz, sz)) (fun i x h => by
      rw [List.getElem?_map] at h
      cases hr : (List.range n)[i]? with
      | none => rw [hr] at h; cases h
      | some j =>
        rw [hr] at h
        have hj : j = i := by
          have := List.getElem?_eq_some_iff.1 hr
          obtain ⟨h1, h2⟩ := this
          rw [← h2]; simp
        subst hj
        simpa using h) vs _ _ hf
    refine ⟨.slice (some ⟨w.heap.size, 0, none⟩) n n, w.alloc (.cells ((xs.map enc).flatten).toArray e), ?_, ?_⟩
    · have h24 : ¬ n * inf.size > 2 ^ 24 := by rw [hsz]; omega
      simp only [execOp, Instr.buildSlice, Sem.run_bind, run_underlying hu, Result.andThen_ok, sizeOf, typeInfo, run_program, hinf, Sem.run_pure, h24, if_false, Sem.run_ite, hz0, hz1, e2]
      by_cases h0 : n * inf.size = 0
      · have hn0 : n = 0 := by rw [hsz] at h0; rcases Nat.mul_eq_zero.1 h0 with h | h <;> omega
        subst hn0
        rw [if_pos h0]
        rw [hsz]
        have hc0 : ((Array.range (0 * sz)).map ((#[] : Array Value)[· % (#[] : Array Value).size]!)) = ((List.replicate 0 zs).flatten).toArray := by simp
        rw [hc0, hfill]
        rfl
      · rw [if_neg h0]
        rw [hsz, hcells, hfill]
        rfl
    · refine Sat.upd (Sat.new _ hs) (SameOut.refl _) (Nat.le_refl _) fun D hD hl => ⟨fun _ _ _ => rfl, D, fun b hb => ⟨hl b hb, .inl hb⟩, he, .inr ⟨_, n, [], by rw [hn1], hD.1, ?_, ?_, by rw [List.append_nil]; exact hD.2⟩⟩
      · have : n * 1 ≤ n * sz := Nat.mul_le_mul_left _ hn2
        unfold maxI; omega
      · rw [List.append_nil, flat_length _ he, hn1]) k

/-! ### copy -/

theorem take_flat {α : Type} {enc : α → List Value} {sz : Nat} (l : List α) (n : Nat) (h : ∀ x ∈ l, (enc x).length = sz) : ((l.map enc).flatten).take (n * sz) = ((l.take n).map enc).flatten := by
  induction l generalizing n with
  | nil => simp
  | cons x l ih =>
    cases n with
    | zero => simp
    | succ n =>
      have hx := h x (List.mem_cons_self ..)
      simp only [List.map_cons, List.flatten_cons, List.take_succ_cons]
      rw [List.take_append, hx, List.take_of_length_le (by rw [hx, Nat.add_mul]; omega), show (n + 1) * sz - sz = n * sz by rw [Nat.add_mul]; omega, ih n (fun y hy => h y (List.mem_cons_of_mem _ hy))]

/-- 'copy(dst, src)', both of the call's own. -/
theorem XL.cp {α : Type} {enc : α → List Value} {l1 l2 : List α} {e : TypeId} {sz by_ : Nat} {v1 v2 : Value} {t t2 : TypeId} {x y : Operand} {cs1 : List Chunk} (ht : elemI P t = some (e, sz, by_)) (hx : ev L x = some v1) (hy : ev L y = some v2)
    [ho : OutV cs v1 enc l1 e sz cs1] [hv : AtV cs1 v2 enc l2 e sz] [hu : UpV cs v1 enc l1 (l2.take l1.length ++ l1.drop l2.length) e sz cs'] (h1 : ∀ x ∈ l2, (enc x).all oneC = true) (hc : chk ops L N d g = true)
    (k : XL P N ops Q l ((d, .int .i64 (Nat.min l2.length l1.length : Nat)) :: L) cs') : XL P N ops Q (⟨some d, .call ⟨.builtin .copy, #[x, y], #[t, t2]⟩, ty, pos, af, g⟩ :: l) L cs :=
  XL.stepV rfl hc (fun a w hm hs => by
    obtain ⟨hu1, inf, hinf, hsz, hbi⟩ := elemI.run ht
    have hs1 := hs.perm ho.mem
    obtain ⟨r, hr⟩ := hv.mem
    have hs2 : Sat (sl v2 enc l2 e sz :: r) w := (Sat.tail hs1).perm hr
    obtain ⟨he1, hv1⟩ := sl_get hs1
    obtain ⟨he2, hv2⟩ := sl_get hs2
    have hn2 : (Builtin.lenOf v2).run P w = .ok l2.length w := (run_first (P := P) hs2).2
    have hf2 : (Builtin.firstCells sz (Nat.min l2.length l1.length) v2).run P w = .ok (((l2.take (Nat.min l2.length l1.length)).map enc).flatten).toArray w := by
      rcases hv2 with ⟨rfl, rfl⟩ | ⟨b, cap, sp, rfl, _, _, hlen, hh⟩
      · simp [Builtin.firstCells]
      · have hfl := flat_length (l2.take (Nat.min l2.length l1.length)) (fun x hx => he2 x (List.mem_of_mem_take hx))
        have hmin : min (Nat.min l2.length l1.length) l2.length = Nat.min l2.length l1.length := Nat.min_eq_left (Nat.min_le_left _ _)
        rw [List.length_take, hmin] at hfl
        have := run_loadCellsFrom (P := P) (w := w) (b := b) (o := 0) (((l2.take (Nat.min l2.length l1.length)).map enc).flatten) 0 #[] (fun j u hj => by
          rw [cell_at hh]
          have hjl := (List.getElem?_eq_some_iff.1 hj).1
          rw [← take_flat _ _ he2, List.getElem?_take] at hj
          split at hj
          · simp only [Nat.zero_add, List.getElem?_toArray]
            have : j < ((l2.map enc).flatten).length := (List.getElem?_eq_some_iff.1 hj).1
            rw [List.getElem?_append_left this]; exact hj
          · cases hj)
        simp only [Builtin.firstCells, loadCells]
        rw [hfl] at this
        rw [this]; simp
    obtain ⟨r1, k1, k2⟩ := hu.mem
    have hs3 := hs.perm k1
    rcases hv1 with ⟨rfl, rfl⟩ | ⟨b, cap, sp, rfl, hlt, hcap, hlen, hh⟩
    · refine ⟨w, ?_, ?_⟩
      · simp only [execOp, resolve, Sem.run_bind, Sem.run_pure, Result.andThen_ok, invoke, builtin, List.map_toArray, List.map_cons, List.map_nil, hm.eval hx, hm.eval hy, Builtin.copy_, List.getElem?_toArray, List.getElem?_cons_zero, List.getElem?_cons_succ,
          run_underlying hu1, hn2, sizeOf, typeInfo, run_program, hinf, hsz]
        simp only [List.length_nil] at hf2
        rw [hf2]; rfl
      · have : (l2.take ([] : List α).length ++ ([] : List α).drop l2.length) = [] := by simp
        rw [this] at k2
        exact hs3.perm k2.symm
    · have hmin2 : (l2.take (Nat.min l2.length l1.length)) = l2.take l1.length := by
        rcases Nat.le_total l2.length l1.length with h | h
        · rw [show Nat.min l2.length l1.length = l2.length from Nat.min_eq_left h, List.take_length, List.take_of_length_le h]
        · rw [show Nat.min l2.length l1.length = l1.length from Nat.min_eq_right h]
      rw [hmin2] at hf2
      have het : ∀ x ∈ l2.take l1.length, (enc x).length = sz := fun x hx => he2 x (List.mem_of_mem_take hx)
      have hft := flat_length (l2.take l1.length) het
      have hl1 := flat_length l1 he1
      have hle : (l2.take l1.length).length ≤ l1.length := by rw [List.length_take]; omega
      have hle' := Nat.mul_le_mul_right sz hle
      obtain ⟨w', q1, q2, q3, q4, q5⟩ := run_storeCells (P := P) (b := b) (o := 0) (e := e) (((l2.take l1.length).map enc).flatten) 0 w _ (by
          rw [List.all_eq_true]
          intro u hu'
          obtain ⟨us, h3, h4⟩ := List.mem_flatten.1 hu'
          obtain ⟨x, h5, rfl⟩ := List.mem_map.1 h3
          exact List.all_eq_true.1 (h1 x (List.mem_of_mem_take h5)) u h4) hh (by rw [hft, List.length_append, hl1]; omega)
      have hset : setsN ((l1.map enc).flatten ++ sp) (0 + 0) (((l2.take l1.length).map enc).flatten) = ((l2.take l1.length ++ l1.drop l2.length).map enc).flatten ++ sp := by
        have hsplit : (l1.map enc).flatten = ((l1.take (l2.take l1.length).length).map enc).flatten ++ ((l1.drop (l2.take l1.length).length).map enc).flatten := by
          rw [← List.flatten_append, ← List.map_append, List.take_append_drop]
        have hdrop : l1.drop (l2.take l1.length).length = l1.drop l2.length := by
          rw [List.length_take]
          rcases Nat.le_total l2.length l1.length with h | h
          · rw [Nat.min_eq_right h]
          · rw [Nat.min_eq_left h, List.drop_eq_nil_of_le (Nat.le_refl _), List.drop_eq_nil_of_le h]
        have e1 := setsN_append (((l2.take l1.length).map enc).flatten) [] (((l1.take (l2.take l1.length).length).map enc).flatten) (((l1.drop l2.length).map enc).flatten ++ sp)
          (by rw [hft, flat_length _ (fun x hx => he1 x (List.mem_of_mem_take hx)), List.length_take, Nat.min_eq_left hle])
        rw [hsplit, hdrop]
        simp only [List.nil_append, List.length_nil, List.append_assoc, List.map_append, List.flatten_append] at e1 ⊢
        exact e1
      rw [hset] at q5
      have hll : (l2.take l1.length ++ l1.drop l2.length).length = l1.length := by
        rw [List.length_append, List.length_take, List.length_drop]; omega
      have hel : ∀ x ∈ l2.take l1.length ++ l1.drop l2.length, (enc x).length = sz := fun x hx => (List.mem_append.1 hx).elim (het x) (fun h => he1 x (List.mem_of_mem_drop h))
      refine ⟨w', ?_, (sl_set hs3 rfl hll hel q2 q3 hcap ?_ q5 q4).perm k2.symm⟩
      · simp only [execOp, resolve, Sem.run_bind, Sem.run_pure, Result.andThen_ok, invoke, builtin, List.map_toArray, List.map_cons, List.map_nil, hm.eval hx, hm.eval hy, Builtin.copy_, List.getElem?_toArray, List.getElem?_cons_zero, List.getElem?_cons_succ,
          run_underlying hu1, hn2, sizeOf, typeInfo, run_program, hinf, hsz]
        rw [hf2]
        simp only [Result.andThen_ok, q1]
        rfl
      · rw [List.length_append, flat_length _ hel, hll]
        rw [List.length_append, hl1] at hlen; exact hlen) k
end
end Go.Sx
