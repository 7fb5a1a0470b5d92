/-
  The calculus Sx, part 2: memory: blocks known whole ('blk'), slices of the call's own ('sl'), the old world ('old'); addresses, loads, stores, new blocks, calls, returns.
-/
import Derived.Test.YteeiccjglmehcaaGreatSx1
namespace Go.Sx
open Go

/-! ### What is asked of types -/

def fld (P : Program) (s : TypeId) (f : Nat) : Option Nat :=
  match P.underlying s with
  | some (.struct fs) => (fs[f]?).bind fun fd => match (P.info? fd.type).map (·.size) with
    | some (n + 1) => bif Nat.beq (n + 1) 0 then none else some fd.offset
    | _ => none
  | _ => none
def one (P : Program) (t : TypeId) : Bool :=
  match P.underlying t with
  | some (.struct _) | some (.array _ _) | none => false
  | some _ => match (P.info? t).map (·.size) with | some 1 => true | _ => false
def aggN (P : Program) (t : TypeId) : Option Nat :=
  match P.underlying t with
  | some (.struct _) | some (.array _ _) => (P.info? t).map (·.size)
  | _ => none
/-- A type's zero, as cells. -/
def zeroC (P : Program) (t : TypeId) : Option (List Value) := ((P.info? t).bind (·.zero)).map fun v => v.cells.toList
/-- The elements of a slice type: type, cells, bytes. -/
def elemI (P : Program) (t : TypeId) : Option (TypeId × Nat × Nat) :=
  match P.underlying t with
  | some (.slice e) => (P.info? e).map fun i => (e, i.size, i.bytes)
  | _ => none

section
variable {P : Program} {w : World}

theorem fld.run {s : TypeId} {f off : Nat} (h : fld P s f = some off) (b o : Nat) : (Instr.fieldAt s (.pointer (some ⟨b, o, none⟩)) f).run P w = .ok (.pointer (some ⟨b, o + off, none⟩)) w := by
  unfold fld at h
  split at h
  · rename_i fs hu
    cases hf : fs[f]? with
    | none => rw [hf] at h; cases h
    | some fd =>
      rw [hf] at h
      simp only [Option.bind_some] at h
      cases hi : P.info? fd.type with
      | none => rw [hi] at h; cases h
      | some i =>
        rw [hi] at h
        simp only [Option.map_some] at h
        split at h
        · rename_i n hn
          have hn' : i.size = n + 1 := by simpa using hn
          have hoff : fd.offset = off := by
            have : Nat.beq (n + 1) 0 = false := rfl
            rw [this] at h; simpa using h
          have hadd : (⟨b, o, none⟩ : Addr).add off = ⟨b, o + off, none⟩ := by
            unfold Addr.add; split <;> simp_all
          simp [Instr.fieldAt, run_underlying hu, hf, Instr.sureAddr, fieldPlace, sizeOf, typeInfo, hi, hn', hoff, hadd]
        · cases h
  · cases h

theorem one.agg {t : TypeId} (h : one P t = true) : (isAgg t).run P w = .ok false w := by
  unfold one at h
  unfold isAgg
  split at h
  · cases h
  · cases h
  · cases h
  · rename_i d hne1 hne2 hu
    rw [Sem.run_bind, run_underlying hu]
    cases d <;> simp_all
theorem one.size {t : TypeId} (h : one P t = true) : (sizeOf t).run P w = .ok 1 w := by
  unfold one at h
  split at h
  · cases h
  · cases h
  · cases h
  · cases hi : P.info? t with
    | none => rw [hi] at h; cases h
    | some i =>
      rw [hi] at h
      simp only [Option.map_some] at h
      split at h
      · rename_i h1
        have : i.size = 1 := by simpa using h1
        simp [sizeOf, typeInfo, hi, this]
      · cases h
theorem aggN.agg {t : TypeId} {n : Nat} (h : aggN P t = some n) : (isAgg t).run P w = .ok true w := by
  unfold aggN at h
  unfold isAgg
  split at h
  · rename_i hu; simp [run_underlying hu]
  · rename_i hu; simp [run_underlying hu]
  · cases h
theorem aggN.size {t : TypeId} {n : Nat} (h : aggN P t = some n) : (sizeOf t).run P w = .ok n w := by
  unfold aggN at h
  have : (P.info? t).map (·.size) = some n := by
    split at h
    · exact h
    · exact h
    · cases h
  cases hi : P.info? t with
  | none => rw [hi] at this; cases this
  | some i =>
    rw [hi] at this
    have : i.size = n := by simpa using this
    simp [sizeOf, typeInfo, hi, this]

theorem add_none (b o k : Nat) : (⟨b, o, none⟩ : Addr).add k = ⟨b, o + k, none⟩ := by
  unfold Addr.add; split <;> simp_all

theorem cell_at {b o : Nat} {c : Array Value} {e : TypeId} {fz : Nat × Nat} (h : w.heap[b]? = some (.cells c e fz)) : w.cell? ⟨b, o, none⟩ = c[o]? := by
  simp [World.cell?, h]

theorem run_load1 {t : TypeId} {b o : Nat} {v : Value} (ht : one P t = true) (hv : w.cell? ⟨b, o, none⟩ = some v) :
    (Instr.loadAt t (.pointer (some ⟨b, o, none⟩))).run P w = .ok v w := by
  simp [Instr.loadAt, Instr.sureAddr, loadVar, one.agg ht, hv]

theorem run_loadCellsFrom {b o : Nat} : ∀ (vs : List Value) (i : Nat) (acc : Array Value), (∀ j v, vs[j]? = some v → w.cell? ⟨b, o + i + j, none⟩ = some v) →
    (loadCellsFrom ⟨b, o, none⟩ i vs.length acc).run P w = .ok (acc ++ vs.toArray) w := by
  intro vs
  induction vs with
  | nil => intro i acc _; simp [loadCellsFrom]
  | cons v vs ih =>
    intro i acc h
    have h0 := h 0 v rfl
    simp only [Nat.add_zero] at h0
    simp only [List.length_cons, loadCellsFrom, Sem.run_bind, add_none, run_load, h0, Result.andThen_ok]
    rw [ih (i + 1) (acc.push v) (fun j u hj => by have := h (j + 1) u (by simpa using hj); rw [show o + (i + 1) + j = o + i + (j + 1) by omega]; exact this)]
    simp
theorem run_loadN {t : TypeId} {b o n : Nat} {vs : List Value} (ht : aggN P t = some n) (hn : vs.length = n) (hv : ∀ j v, vs[j]? = some v → w.cell? ⟨b, o + j, none⟩ = some v) :
    (Instr.loadAt t (.pointer (some ⟨b, o, none⟩))).run P w = .ok (.agg vs.toArray) w := by
  subst hn
  have := run_loadCellsFrom (P := P) (w := w) (b := b) (o := o) vs 0 #[] (by simpa using hv)
  simp [Instr.loadAt, Instr.sureAddr, loadVar, aggN.agg ht, aggN.size ht, loadCells, this]

/-- One cell's value. -/
def oneC : Value → Bool
  | .agg _ | .tuple _ => false
  | _ => true

theorem oneC.cells {v : Value} (h : oneC v = true) : v.cells = #[v] := by cases v <;> simp_all [oneC, Value.cells]
/-- The same, found by itself. -/
class OneV (v : Value) : Prop where
  eq : oneC v = true
instance {k : IntKind} {n : Int} : OneV (.int k n) := ⟨rfl⟩
instance {b : Bool} : OneV (.bool b) := ⟨rfl⟩
instance {s : ByteArray} : OneV (.string s) := ⟨rfl⟩
instance {p : Option Addr} : OneV (.pointer p) := ⟨rfl⟩
instance {p : Option Addr} {n c : Nat} : OneV (.slice p n c) := ⟨rfl⟩
instance {r : Option Nat} : OneV (.map r) := ⟨rfl⟩
instance {f : Fn} {a b : Array Value} : OneV (.func f a b) := ⟨rfl⟩
instance : OneV .nilFunc := ⟨rfl⟩
instance : OneV .nilIface := ⟨rfl⟩
instance {t : TypeId} {v : Value} : OneV (.iface t v) := ⟨rfl⟩
class OneVs (l : List Value) : Prop where
  eq : l.all oneC = true
instance : OneVs [] := ⟨rfl⟩
instance {v : Value} {l : List Value} [h : OneV v] [k : OneVs l] : OneVs (v :: l) := ⟨by simp [h.eq, k.eq]⟩
theorem oneC.one' {v : Value} (h : oneC v = true) : v.oneCell' = true := by cases v <;> simp_all [oneC, Value.oneCell']

theorem run_store1 {t : TypeId} {b o : Nat} {v u : Value} (ht : one P t = true) (h1 : oneC v = true) (hv : w.cell? ⟨b, o, none⟩ = some u) (hf : w.frozen? ⟨b, o, none⟩ = false) :
    (Instr.storeAt t (.pointer (some ⟨b, o, none⟩)) v).run P w = .ok () (w.setCell ⟨b, o, none⟩ v) := by
  simp [Instr.storeAt, Instr.sureAddr, storeVar, one.size ht, oneC.cells h1, storeCells, add_none, run_store P w _ v .plain (oneC.one' h1), hv, hf]

theorem heap_set {b o : Nat} {c : Array Value} {e : TypeId} {fz : Nat × Nat} {v : Value} (h : w.heap[b]? = some (.cells c e fz)) :
    (w.setCell ⟨b, o, none⟩ v).heap[b]? = some (.cells (c.setIfInBounds o v) e fz) := by
  simp [World.setCell, Array.getElem?_modify, h]
theorem heap_set_other {k : Nat} {a : Addr} {v : Value} (h : k ≠ a.block) : (w.setCell a v).heap[k]? = w.heap[k]? := RowKit.Below.heap_setCell w a v k h

/-- Cells written one behind the other. -/
def setsN : List Value → Nat → List Value → List Value
  | xs, _, [] => xs
  | xs, o, v :: vs => setsN (xs.set o v) (o + 1) vs

theorem setsN_length : ∀ (vs xs : List Value) (o : Nat), (setsN xs o vs).length = xs.length
  | [], _, _ => rfl
  | v :: vs, xs, o => by simp [setsN, setsN_length vs]

theorem setsN_append : ∀ (vs a m b : List Value), m.length = vs.length → setsN (a ++ m ++ b) a.length vs = a ++ vs ++ b
  | [], a, m, b, h => by
    obtain rfl : m = [] := List.length_eq_zero_iff.1 h
    rfl
  | v :: vs, a, [], b, h => by simp at h
  | v :: vs, a, u :: m, b, h => by
    have := setsN_append vs (a ++ [v]) m b (by simpa using h)
    simp only [List.length_append, List.length_singleton] at this
    simp only [setsN]
    rw [show (a ++ u :: m ++ b).set a.length v = a ++ [v] ++ m ++ b by simp]
    rw [this]; simp

theorem run_storeCells {b o : Nat} {e : TypeId} : ∀ (vs : List Value) (i : Nat) (w : World) (xs : List Value), vs.all oneC = true → w.heap[b]? = some (.cells xs.toArray e (0, 0)) → o + i + vs.length ≤ xs.length →
    ∃ w', (storeCells ⟨b, o, none⟩ vs i).run P w = .ok () w' ∧ SameOut w w' ∧ w'.heap.size = w.heap.size ∧ (∀ k, k ≠ b → w'.heap[k]? = w.heap[k]?) ∧
      w'.heap[b]? = some (.cells (setsN xs (o + i) vs).toArray e (0, 0)) := by
  intro vs
  induction vs with
  | nil => intro i w xs _ hh hl; exact ⟨w, by simp [storeCells], SameOut.refl w, rfl, fun _ _ => rfl, hh⟩
  | cons v vs ih =>
    intro i w xs h1 hh hl
    simp only [List.all_cons, Bool.and_eq_true, List.length_cons] at h1 hl
    have hc : w.cell? ⟨b, o + i, none⟩ = some (xs[o + i]'(by omega)) := by
      rw [cell_at hh]; simp
    have hf : w.frozen? ⟨b, o + i, none⟩ = false := by simp [World.frozen?, hh]
    have hh' := heap_set (o := o + i) (v := v) hh
    have e1 : xs.toArray.setIfInBounds (o + i) v = (xs.set (o + i) v).toArray := by simp
    rw [e1] at hh'
    obtain ⟨w', hr, ho, hs, hk, hb⟩ := ih (i + 1) _ _ h1.2 hh' (by simp; omega)
    refine ⟨w', ?_, ⟨ho.os, ho.tape, ho.output⟩, by rw [hs]; simp, fun k hne => (hk k hne).trans (heap_set_other hne), hb⟩
    simp only [storeCells, Sem.run_bind, add_none, run_store P w _ v .plain (oneC.one' h1.1), hc, hf, Bool.false_eq_true, if_false, Result.andThen_ok, hr]

theorem run_storeN {t : TypeId} {b o n : Nat} {e : TypeId} {vs xs : List Value} (ht : aggN P t = some n) (hn : vs.length = n) (h1 : vs.all oneC = true)
    (hh : w.heap[b]? = some (.cells xs.toArray e (0, 0))) (hl : o + n ≤ xs.length) :
    ∃ w', (Instr.storeAt t (.pointer (some ⟨b, o, none⟩)) (.agg vs.toArray)).run P w = .ok () w' ∧ SameOut w w' ∧ w'.heap.size = w.heap.size ∧ (∀ k, k ≠ b → w'.heap[k]? = w.heap[k]?) ∧
      w'.heap[b]? = some (.cells (setsN xs o vs).toArray e (0, 0)) := by
  obtain ⟨w', hr, h⟩ := run_storeCells (P := P) (b := b) (o := o) (e := e) vs 0 w xs h1 hh (by omega)
  refine ⟨w', ?_, h⟩
  simp [Instr.storeAt, Instr.sureAddr, storeVar, aggN.size ht, Value.cells, hn, hr]
end

/-! ### Chunks of memory -/

/-- A block of the call's own, known whole. -/
def blk (b : Nat) (l : List Value) (e : TypeId) : Chunk := cell b (.cells l.toArray e (0, 0))

class AtB (cs : List Chunk) (b : Nat) (l : outParam (List Value)) (e : outParam TypeId) : Prop where
  mem : ∃ r, Take1 cs (blk b l e) r
instance atBS {c : Chunk} {cs : List Chunk} {b : Nat} {l : List Value} {e : TypeId} [h : AtB cs b l e] : AtB (c :: cs) b l e := ⟨let ⟨_, k⟩ := h.mem; ⟨_, tS k⟩⟩
instance atB0 {cs : List Chunk} {b : Nat} {l : List Value} {e : TypeId} : AtB (blk b l e :: cs) b l e := ⟨⟨_, t0⟩⟩
theorem AtB.get {cs : List Chunk} {b : Nat} {l : List Value} {e : TypeId} [h : AtB cs b l e] {w : World} (hs : Sat cs w) : b < w.heap.size ∧ w.heap[b]? = some (.cells l.toArray e (0, 0)) :=
  let ⟨_, k⟩ := h.mem; Sat.cell (hs.perm k)

class UpB (cs : List Chunk) (b : Nat) (l l' : List Value) (cs' : outParam (List Chunk)) : Prop where
  mem : ∃ r e, Take1 cs (blk b l e) r ∧ Take1 cs' (blk b l' e) r
instance upBS {c : Chunk} {cs cs' : List Chunk} {b : Nat} {l l' : List Value} [h : UpB cs b l l' cs'] : UpB (c :: cs) b l l' (c :: cs') := ⟨let ⟨_, e, k, k'⟩ := h.mem; ⟨_, e, tS k, tS k'⟩⟩
instance upB0 {cs : List Chunk} {b : Nat} {l l' : List Value} {e : TypeId} : UpB (blk b l e :: cs) b l l' (blk b l' e :: cs) := ⟨⟨_, _, t0, t0⟩⟩

/-- The cells of a literal list turned at one place. -/
class SetAt (l : List Value) (o : Nat) (v : Value) (l' : outParam (List Value)) : Prop where
  eq : o < l.length ∧ l' = l.set o v
instance setAt0 {u v : Value} {l : List Value} : SetAt (u :: l) 0 v (v :: l) := ⟨by simp, rfl⟩
instance setAt00 {u v : Value} {l : List Value} : SetAt (u :: l) (0 + 0) v (v :: l) := ⟨by simp, rfl⟩
instance setAt000 {u v : Value} {l : List Value} : SetAt (u :: l) (0 + 0 + 0) v (v :: l) := ⟨by simp, rfl⟩
instance setAtS {u v : Value} {l l' : List Value} {o : Nat} [h : SetAt l o v l'] : SetAt (u :: l) (o + 1) v (u :: l') := ⟨by simpa using h.eq.1, by simp [h.eq.2]⟩

section
variable {P : Program} {N : Nat} {Q : Exit → Act → World → Prop} {L L' : List (Nat × Value)} {cs cs' : List Chunk} {ops : Array Oper} {l : List Oper}
variable {d : Nat} {ty : TypeId} {pos : String} {af : Array Edge} {g : Option (Nat × Bool)}

theorem XL.fa {s : TypeId} {x : Operand} {f b o off : Nat} (hf : fld P s f = some off) (hx : ev L x = some (.pointer (some ⟨b, o, none⟩))) (hc : chk ops L N d g = true)
    (k : XL P N ops Q l ((d, .pointer (some ⟨b, o + off, none⟩)) :: L) cs) : XL P N ops Q (⟨some d, .fieldAddr s x f, ty, pos, af, g⟩ :: l) L cs :=
  XL.stepP rfl hc (fun a w hm => by
    simp only [execOp, hm.eval hx]
    rw [Sem.run_bind, fld.run hf]; rfl) k

/-- A cell of a block known whole. -/
theorem XL.ld {t : TypeId} {x : Operand} {b o : Nat} {e : TypeId} {xs : List Value} {v : Value} (ht : one P t = true) (hx : ev L x = some (.pointer (some ⟨b, o, none⟩))) [hb : AtB cs b xs e]
    (hv : xs[o]? = some v) (hc : chk ops L N d g = true) (k : XL P N ops Q l ((d, v) :: L) cs) : XL P N ops Q (⟨some d, .load t x, ty, pos, af, g⟩ :: l) L cs :=
  XL.stepV rfl hc (fun a w hm hs => ⟨w, by
    have hh := (hb.get hs).2
    simp only [execOp, hm.eval hx]
    rw [Sem.run_bind, run_load1 ht (by rw [cell_at hh]; simpa using hv)]; rfl, hs⟩) k

/-- Some cells of a block known whole. -/
theorem XL.ldN {t : TypeId} {x : Operand} {b o n : Nat} {e : TypeId} {xs vs : List Value} (ht : aggN P t = some n) (hx : ev L x = some (.pointer (some ⟨b, o, none⟩))) [hb : AtB cs b xs e]
    (hn : Nat.beq vs.length n = true) (hv : (xs.drop o).take n = vs) (hc : chk ops L N d g = true) (k : XL P N ops Q l ((d, .agg vs.toArray) :: L) cs) : XL P N ops Q (⟨some d, .load t x, ty, pos, af, g⟩ :: l) L cs :=
  XL.stepV rfl hc (fun a w hm hs => ⟨w, by
    have hh := (hb.get hs).2
    simp only [execOp, hm.eval hx]
    have hn' := Nat.eq_of_beq_eq_true hn
    rw [Sem.run_bind, run_loadN ht hn' (vs := vs) (fun j v hj => by
      rw [cell_at hh]
      subst hv
      rw [List.getElem?_take, List.getElem?_drop] at hj
      split at hj
      · simpa using hj
      · cases hj)]
    rfl, hs⟩) k

theorem XL.st {t : TypeId} {x y : Operand} {b o : Nat} {e : TypeId} {xs xs' : List Value} {v : Value} (ht : one P t = true) (hx : ev L x = some (.pointer (some ⟨b, o, none⟩))) (hy : ev L y = some v)
    [h1' : OneV v] [hb : AtB cs b xs e] [hl : SetAt xs o v xs'] [hu : UpB cs b xs xs' cs'] (hc : wOk ops L g = true) (k : XL P N ops Q l L cs') :
    XL P N ops Q (⟨none, .store t x y, ty, pos, af, g⟩ :: l) L cs :=
  XL.stepU rfl hc (fun a w hm hs => by
    obtain ⟨r, e', h2, h3⟩ := hu.mem
    have hh := (Sat.cell (hs.perm h2)).2
    obtain ⟨hlt, rfl⟩ := hl.eq
    have h1 := h1'.eq
    have hf : w.frozen? ⟨b, o, none⟩ = false := by simp [World.frozen?, hh]
    have hc : w.cell? ⟨b, o, none⟩ = some xs[o] := by rw [cell_at hh]; simp [hlt]
    refine ⟨_, by simp only [execOp, hm.eval hx, hm.eval hy]; rw [Sem.run_bind, run_store1 ht h1 hc hf]; rfl, ?_⟩
    exact (Sat.set (w' := w.setCell ⟨b, o, none⟩ v) (o' := .cells (xs.set o v).toArray e' (0, 0)) (hs.perm h2) ⟨rfl, rfl, rfl⟩ (by simp) (by rw [heap_set hh]; simp) (fun k hk => heap_set_other hk)).perm h3.symm) k

theorem XL.stN {t : TypeId} {x y : Operand} {b o n : Nat} {e : TypeId} {xs xs' vs : List Value} (ht : aggN P t = some n) (hx : ev L x = some (.pointer (some ⟨b, o, none⟩))) (hy : ev L y = some (.agg vs.toArray))
    [h1 : OneVs vs] (hn : Nat.beq vs.length n = true) [AtB cs b xs e] (hl : setsN xs o vs = xs') (hl2 : Nat.ble (o + n) xs.length = true) [hu : UpB cs b xs xs' cs'] (hc : wOk ops L g = true) (k : XL P N ops Q l L cs') :
    XL P N ops Q (⟨none, .store t x y, ty, pos, af, g⟩ :: l) L cs :=
  XL.stepU rfl hc (fun a w hm hs => by
    obtain ⟨r, e', h2, h3⟩ := hu.mem
    have hh := (Sat.cell (hs.perm h2)).2
    obtain ⟨w', hr, ho, hsz, hk, hb⟩ := run_storeN (P := P) ht (Nat.eq_of_beq_eq_true hn) h1.eq hh (Nat.le_of_ble_eq_true hl2)
    refine ⟨w', by simp only [execOp, hm.eval hx, hm.eval hy]; rw [Sem.run_bind, hr]; rfl, ?_⟩
    subst hl
    exact (Sat.set (hs.perm h2) ho hsz hb hk).perm h3.symm) k

theorem run_newRow {e : TypeId} {c : Array Value} {w : World} : (newRow e c).run P w = .ok ⟨w.heap.size, 0, none⟩ (w.alloc (.cells c e)) := by
  simp [newRow]

theorem XL.al {e : TypeId} {zs : List Value} (hz : zeroC P e = some zs) (hc : chk ops L N d g = true) (k : ∀ b, XL P N ops Q l ((d, .pointer (some ⟨b, 0, none⟩)) :: L) (blk b zs e :: cs)) :
    XL P N ops Q (⟨some d, .alloc e, ty, pos, af, g⟩ :: l) L cs :=
  XL.stepE (cx := fun b => blk b zs e :: cs) rfl hc (fun a w hm hs => ⟨w.heap.size, _, by
    unfold zeroC at hz
    cases hi : P.info? e with
    | none => rw [hi] at hz; cases hz
    | some i =>
      rw [hi] at hz
      simp only [Option.bind_some] at hz
      cases hz' : i.zero with
      | none => rw [hz'] at hz; cases hz
      | some z =>
        rw [hz'] at hz
        have hz2 : z.cells.toList = zs := by simpa using hz
        have hz3 : z.cells = zs.toArray := by rw [← hz2]
        simp [execOp, Instr.alloc, zeroValue, typeInfo, hi, hz', newVar, run_newRow, hz3], Sat.new _ hs⟩) k

theorem XL.bx {e : TypeId} {x : Operand} {v : Value} {vs : List Value} (hx : ev L x = some v) (hv : v.cells = vs.toArray) (hc : chk ops L N d g = true)
    (k : ∀ b, XL P N ops Q l ((d, .pointer (some ⟨b, 0, none⟩)) :: L) (blk b vs e :: cs)) :
    XL P N ops Q (⟨some d, .box e x, ty, pos, af, g⟩ :: l) L cs :=
  XL.stepE (cx := fun b => blk b vs e :: cs) rfl hc (fun a w hm hs => ⟨w.heap.size, _, by
    simp only [execOp, hm.eval hx, Instr.box, newVar, hv, Sem.run_bind, run_newRow, Result.andThen_ok, Sem.run_pure], Sat.new _ hs⟩) k
end
end Go.Sx
