/-
  The calculus Sx, part 9: arrays, cells at computed places, texts out of bytes, min and max, function values that are called.
-/
import Derived.Test.YteeiccjglmehcaaGreatSx8
import Derived.Lib.SlBytesRow
namespace Go.Sx
open Go

def arrI (P : Program) (t : TypeId) : Option (Nat × TypeId × Nat) :=
  match P.underlying t with
  | some (.array n e) => (P.info? e).map fun i => (n, e, i.size)
  | _ => none
theorem arrI.run {P : Program} {t e : TypeId} {n sz : Nat} (h : arrI P t = some (n, e, sz)) : P.underlying t = some (.array n e) ∧ ∃ i, P.info? e = some i ∧ i.size = sz := by
  unfold arrI at h
  split at h
  · rename_i n' e' hu
    cases hi : P.info? e' with
    | none => rw [hi] at h; cases h
    | some i =>
      rw [hi] at h
      simp only [Option.map_some, Option.some.injEq, Prod.mk.injEq] at h
      obtain ⟨rfl, rfl, h3⟩ := h
      exact ⟨hu, i, hi, h3⟩
  · cases h

section
variable {P : Program} {N : Nat} {Q : Exit → Act → World → Prop} {L L' : List (Nat × Value)} {cs cs' : List Chunk} {ops : Array Oper} {l : List Oper}
variable {d : Nat} {ty : TypeId} {pos : String} {af : Array Edge} {g : Option (Nat × Bool)}

/-- '&a[i]' of an array. -/
theorem XL.ixA {t : TypeId} {x i : Operand} {kd : IntKind} {n : Int} {m sz b o : Nat} {e : TypeId} (j : Nat) (ht : arrI P t = some (m, e, sz)) (hx : ev L x = some (.pointer (some ⟨b, o, none⟩))) (hi : ev L i = some (.int kd n)) (hn : n = (j : Int)) (hj : j < m)
    (hc : chk ops L N d g = true) (k : XL P N ops Q l ((d, .pointer (some ⟨b, o + j * sz, none⟩)) :: L) cs) : XL P N ops Q (⟨some d, .indexAddr t x i, ty, pos, af, g⟩ :: l) L cs :=
  XL.stepP rfl hc (fun a w hm => by
    subst hn
    obtain ⟨hu, inf, hinf, hsz⟩ := arrI.run ht
    have h0 : (0 : Int) ≤ (j : Int) ∧ (j : Int) < (m : Int) := by omega
    simp only [execOp, hm.eval hx, hm.eval hi, Instr.indexAt, Instr.sureAddr, Sem.run_bind, asIntOf, Sem.run_pure, Result.andThen_ok, run_underlying hu]
    rw [if_pos h0]
    simp [sizeOf, typeInfo, hinf, hsz, add_none]) k

/-- A store to a cell at a computed place of a block. -/
theorem XL.stL {t : TypeId} {x y : Operand} {b o : Nat} {e : TypeId} {xs : List Value} {v : Value} (ht : one P t = true) (hx : ev L x = some (.pointer (some ⟨b, o, none⟩))) (hy : ev L y = some v)
    [h1' : OneV v] [hb : AtB cs b xs e] (hl : o < xs.length) [hu : UpB cs b xs (xs.set o v) cs'] (hc : wOk ops L g = true) (k : XL P N ops Q l L cs') :
    XL P N ops Q (⟨none, .store t x y, ty, pos, af, g⟩ :: l) L cs :=
  XL.st (hl := ⟨⟨hl, rfl⟩⟩) ht hx hy hc k

/-- 'a[:h]' of an array. -/
theorem XL.slA {t : TypeId} {x z : Operand} {kd : IntKind} {n : Int} {m sz b o : Nat} {e : TypeId} (j : Nat) (ht : arrI P t = some (m, e, sz)) (hx : ev L x = some (.pointer (some ⟨b, o, none⟩))) (hi : ev L z = some (.int kd n)) (hn : n = (j : Int)) (hj : j ≤ m)
    (hc : chk ops L N d g = true) (k : XL P N ops Q l ((d, .slice (some ⟨b, o, none⟩) j m) :: L) cs) : XL P N ops Q (⟨some d, .slice t x none (some z) none, ty, pos, af, g⟩ :: l) L cs :=
  XL.stepP rfl hc (fun a w hm => by
    subst hn
    obtain ⟨hu, inf, hinf, hsz⟩ := arrI.run ht
    simp [execOp, hm.eval hx, hm.eval hi, Instr.sliceAt, Instr.sureAddr, asIntOf, run_underlying hu, Instr.sliceBounds, Instr.sliceBound, hj, sizeOf, typeInfo, hinf, add_none]) k

/-- 'string(b[..])' of bytes that lie in a block. -/
theorem XL.cvS {src dst e e' : TypeId} {x : Operand} {b o n cap : Nat} {xs : List Value} (s : List UInt8) (hs : P.underlying src = some (.slice e)) (he : P.underlying e = some (.int .u8)) (hd : P.underlying dst = some .string)
    (hx : ev L x = some (.slice (some ⟨b, o, none⟩) n cap)) [hb : AtB cs b xs e'] (hv : (xs.drop o).take n = bytesV s) (hn : s.length = n)
    (hc : chk ops L N d g = true) (k : XL P N ops Q l ((d, S s) :: L) cs) : XL P N ops Q (⟨some d, .convert src dst x, ty, pos, af, g⟩ :: l) L cs :=
  XL.stepV rfl hc (fun a w hm hs' => ⟨w, by
    have hh := (hb.get hs').2
    have hby : Lib.Bytes w b o ⟨s.toArray⟩ := fun i hi => by
      rw [size_S] at hi
      rw [cell_at hh]
      have h1 : ((xs.drop o).take n)[i]? = (bytesV s)[i]? := by rw [hv]
      rw [List.getElem?_take_of_lt (by omega), List.getElem?_drop] at h1
      simp only [List.getElem?_toArray]
      rw [h1]
      simp [bytesV, List.getElem?_eq_getElem hi]
      rfl
    have h := Lib.run_convert_whole (P := P) w src e dst hs he hd b o ⟨s.toArray⟩ hby cap
    rw [size_S, hn] at h
    simp only [execOp, hm.eval hx]
    rw [Sem.run_bind, h]; rfl, hs'⟩) k

theorem XL.mn {x y : Operand} {ats : Array TypeId} {kd : IntKind} {m n : Int} (hx : ev L x = some (.int kd m)) (hy : ev L y = some (.int kd n))
    (hc : chk ops L N d g = true) (k : XL P N ops Q l ((d, .int kd (min m n)) :: L) cs) : XL P N ops Q (⟨some d, .call ⟨.builtin .min, #[x, y], ats⟩, ty, pos, af, g⟩ :: l) L cs :=
  XL.stepP rfl hc (fun a w hm => by
    have : min m n = if n < m then n else m := by split <;> omega
    simp [execOp, resolve, invoke, builtin, Builtin.min_, Builtin.min2, hm.eval hx, hm.eval hy, this]) k
theorem XL.mx {x y : Operand} {ats : Array TypeId} {kd : IntKind} {m n : Int} (hx : ev L x = some (.int kd m)) (hy : ev L y = some (.int kd n))
    (hc : chk ops L N d g = true) (k : XL P N ops Q l ((d, .int kd (max m n)) :: L) cs) : XL P N ops Q (⟨some d, .call ⟨.builtin .max, #[x, y], ats⟩, ty, pos, af, g⟩ :: l) L cs :=
  XL.stepP rfl hc (fun a w hm => by
    have : max m n = if m < n then n else m := by split <;> omega
    simp [execOp, resolve, invoke, builtin, Builtin.max_, Builtin.max2, hm.eval hx, hm.eval hy, this]) k

class CutAt (l : List Value) (o n : Nat) (vs : outParam (List Value)) : Prop where
  eq : (l.drop o).take n = vs
instance cutAt0 {l : List Value} : CutAt l 0 0 [] := ⟨by simp⟩
instance cutAtN {l vs : List Value} {x : Value} {n : Nat} [h : CutAt l 0 n vs] : CutAt (x :: l) 0 (n + 1) (x :: vs) := ⟨by have := h.eq; simp at this ⊢; exact this⟩
instance cutAtS {l vs : List Value} {x : Value} {o n : Nat} [h : CutAt l o n vs] : CutAt (x :: l) (o + 1) n vs := ⟨by have := h.eq; simp at this ⊢; exact this⟩
instance cutAt00 {l vs : List Value} {n : Nat} [h : CutAt l 0 n vs] : CutAt l (0 + 0) n vs := h
instance cutAt000 {l vs : List Value} {n : Nat} [h : CutAt l 0 n vs] : CutAt l (0 + 0 + 0) n vs := h
/-- Some cells of a block known whole, told one by one. -/
theorem XL.ldM {t : TypeId} {x : Operand} {b o n : Nat} {e : TypeId} {xs vs : List Value} (ht : aggN P t = some n) (hx : ev L x = some (.pointer (some ⟨b, o, none⟩))) [hb : AtB cs b xs e] [hv : CutAt xs o n vs]
    (hn : Nat.beq vs.length n = true) (hc : chk ops L N d g = true) (k : XL P N ops Q l ((d, .agg vs.toArray) :: L) cs) : XL P N ops Q (⟨some d, .load t x, ty, pos, af, g⟩ :: l) L cs :=
  XL.ldN ht hx hn hv.eq hc k

/-- Some cells of a block turned, told one by one. -/
theorem XL.stM {t : TypeId} {x y : Operand} {b o n : Nat} {e : TypeId} {xs xs' vs : List Value} (ht : aggN P t = some n) (hx : ev L x = some (.pointer (some ⟨b, o, none⟩))) (hy : ev L y = some (.agg vs.toArray))
    [h1 : OneVs vs] (hn : Nat.beq vs.length n = true) [hb : AtB cs b xs e] [hl : SetsAt xs o vs xs'] (hl2 : Nat.ble (o + n) xs.length = true) [hu : UpB cs b xs xs' cs'] (hc : wOk ops L g = true) (k : XL P N ops Q l L cs') :
    XL P N ops Q (⟨none, .store t x y, ty, pos, af, g⟩ :: l) L cs :=
  XL.stN ht hx hy hn hl.eq.2.symm hl2 hc k

/-! ### Splitting inside a drawn region -/

theorem Oper.wp_monoQ {Q' : Exit → Act → World → Prop} {o : Oper} {a : Act} {w : World} {K K' : Act → World → Prop} (h : ∀ a w, K a w → K' a w) (hq : ∀ e a w, Q e a w → Q' e a w)
    (hh : o.wp P a w K Q) : o.wp P a w K' Q' := by
  unfold Oper.wp at *
  generalize (execOp a.eval o).run P w = r at *
  cases r with
  | ok n w' =>
    cases n <;> simp only [Oper.upon] at hh ⊢ <;>
      first
        | exact h _ _ hh
        | exact Calls.mono hh (fun e w'' he => by cases e <;> first | exact h _ _ he | exact hq _ _ _ he | exact he.imp fun _ h => h.imp fun _ h => hq _ _ _ h)
        | exact Rows.mono hh (fun _ _ he => h _ _ he)
  | halt x w' => cases x <;> simp only [Oper.upon] at hh ⊢ <;> first | exact hq _ _ _ hh | exact hh

theorem wpList_monoQ {Q' : Exit → Act → World → Prop} (hq : ∀ e a w, Q e a w → Q' e a w) : ∀ (l : List Oper) (a : Act) (w : World), wpList P ops Q l a w → wpList P ops Q' l a w
  | [], a, w, h => hq _ _ _ h
  | o :: r, a, w, h => by
    unfold wpList at h ⊢
    split
    · rename_i hw
      rw [if_pos hw] at h
      exact h.imp (Oper.wp_monoQ (wpList_monoQ hq r) hq) (fun h => ⟨h.1, h.2.imp fun _ h => h.imp fun _ h => hq _ _ _ h⟩)
    · rename_i hw
      rw [if_neg hw] at h
      exact wpList_monoQ hq r _ _ h

theorem lk_cons {L L' : List (Nat × Value)} (h : ∀ k, lk L k = lk L' k) (d : Nat) (v : Value) (k : Nat) : lk ((d, v) :: L) k = lk ((d, v) :: L') k := by simp only [lk, h]
theorem Mat.ext {L L' : List (Nat × Value)} {a : Act} (h : ∀ k, lk L k = lk L' k) (hm : Mat N L a) : Mat N L' a := ⟨hm.1, hm.2.1, fun k v hk => hm.2.2 k v (by rw [h]; exact hk)⟩
theorem JP.ext {lo : List Oper} : ∀ (p : Plan) (L L' : List (Nat × Value)) (cs : List Chunk), (∀ k, lk L k = lk L' k) → JP P N Q lo p L cs → JP P N Q lo p L' cs := by
  have heff : ∀ (k : Plan) (ih : ∀ (L L' : List (Nat × Value)) (cs : List Chunk), (∀ k, lk L k = lk L' k) → JP P N Q lo k L cs → JP P N Q lo k L' cs) (L L' : List (Nat × Value)) (cs : List Chunk), (∀ k, lk L k = lk L' k) → ∀ o : Oper,
      XL P N lo.toArray (Ed o L (JP P N Q lo k) N) [o] L cs → XL P N lo.toArray (Ed o L' (JP P N Q lo k) N) [o] L' cs := by
    intro k ih L L' cs he o hX a w hm hs
    refine wpList_monoQ ?_ _ _ _ (hX a w (hm.ext fun k => (he k).symm) hs)
    rintro e a' w' ⟨h1, L2, cs2, h2, h3, h4, h5⟩
    unfold Ext at h2
    cases hd : o.dst with
    | none =>
      rw [hd] at h2; simp only at h2; subst h2
      exact ⟨h1, L', cs2, by unfold Ext; rw [hd], ih _ _ _ he h3, h4.ext he, h5⟩
    | some d =>
      rw [hd] at h2; simp only at h2
      obtain ⟨v, rfl⟩ := h2
      exact ⟨h1, (d, v) :: L', cs2, by unfold Ext; rw [hd]; exact ⟨v, rfl⟩, ih _ _ _ (lk_cons he d v) h3, h4.ext (lk_cons he d v), h5⟩
  intro p
  induction p with
  | done => exact fun L L' cs he h a w hm hs => h a w (hm.ext fun k => (he k).symm) hs
  | q i k ih =>
    rintro L L' cs he ⟨o, d, v, h1, h2, h3, h4, h5⟩
    exact ⟨o, d, v, h1, h2, h3, h4.mono (fun k u hk => by rw [← he]; exact hk), ih _ _ _ (lk_cons he d v) h5⟩
  | r i k ih =>
    rintro L L' cs he ⟨o, d, v, h1, h2, h3, h4, h5⟩
    exact ⟨o, d, v, h1, h2, by rw [← he]; exact h3, h4.mono (fun k u hk => by rw [← he]; exact hk), ih _ _ _ he h5⟩
  | e i k ih =>
    rintro L L' cs he ⟨o, h1, h2⟩
    exact ⟨o, h1, heff k ih L L' cs he o h2⟩
  | e2 i k i' k' ih ih' =>
    rintro L L' cs he ⟨⟨o, h1, h2⟩, o', h1', h2'⟩
    exact ⟨⟨o, h1, heff k ih L L' cs he o h2⟩, o', h1', heff k' ih' L L' cs he o' h2'⟩

theorem lk_again {L : List (Nat × Value)} {s : Nat} {v : Value} (hs : lk L s = some v) (k : Nat) : lk ((s, v) :: L) k = lk L k := by
  simp only [lk]
  cases he : Nat.beq s k with
  | true => rw [← Nat.eq_of_beq_eq_true he, hs]; rfl
  | false => rfl
/-- A slot's value in other words, in a drawn region. -/
theorem JP.re {lo : List Oper} (s : Nat) {p : Plan} {v u : Value} (hs : lk L s = some v) (e : v = u) (k : JP P N Q lo p ((s, u) :: L) cs) : JP P N Q lo p L cs := by
  subst e
  exact JP.ext p _ _ _ (lk_again hs) k
theorem JP.split {lo : List Oper} (s : Nat) {pl : Plan} {p : Prop} [Decidable p] (hs : lk L s = some (.bool (decide p)))
    (h : p → JP P N Q lo pl ((s, .bool true) :: L) cs) (k : ¬ p → JP P N Q lo pl ((s, .bool false) :: L) cs) : JP P N Q lo pl L cs := by
  by_cases hp : p
  · exact JP.re s hs (by rw [decide_eq_true hp]) (h hp)
  · exact JP.re s hs (by rw [decide_eq_false hp]) (k hp)
theorem JP.splitB {lo : List Oper} (s : Nat) {pl : Plan} {b : Bool} (hs : lk L s = some (.bool b))
    (h : b = true → JP P N Q lo pl ((s, .bool true) :: L) cs) (k : b = false → JP P N Q lo pl ((s, .bool false) :: L) cs) : JP P N Q lo pl L cs := by
  cases b
  · exact JP.re s hs rfl (k rfl)
  · exact JP.re s hs rfl (h rfl)
/-- Chunks seen otherwise, in a drawn region: an equal list. -/
theorem JP.eqc {lo : List Oper} {pl : Plan} (h : cs = cs') (k : JP P N Q lo pl L cs') : JP P N Q lo pl L cs := h ▸ k
end
end Go.Sx
