/-
  The calculus Sx, part 13: what came in: plain data of whole numbers, truths, texts, structs, arrays and slices of these, read in the old memory; operations that read it.
-/
import Derived.Test.YteeiccjglmehcaaGreatSx12
import Derived.OpenShut
import Derived.SizedLaws
namespace Go.Sx
open Go Go.RowKit

/-- The shape of a type of plain data. -/
inductive Sh where
  | int (k : IntKind)
  | bool
  | str
  | agg (l : List Sh)
  | sl (e : Sh) (bytes : Nat)
mutual
def Sh.size : Sh → Nat
  | .agg l => Sh.sizes l
  | _ => 1
def Sh.sizes : List Sh → Nat
  | [] => 0
  | s :: l => s.size + Sh.sizes l
end
/-- Plain data. -/
inductive Dv where
  | int (n : Int)
  | bool (b : Bool)
  | str (s : List UInt8)
  | agg (l : List Dv)
  | sl (l : List Dv)
instance : Inhabited Dv := ⟨.int 0⟩
def Dv.i : Dv → Int | .int n => n | _ => 0
def Dv.b : Dv → Bool | .bool b => b | _ => false
def Dv.s : Dv → List UInt8 | .str s => s | _ => []
def Dv.l : Dv → List Dv | .agg l => l | .sl l => l | _ => []
mutual
/-- These cells are read as this. 'M': no text has more bytes, no slice neither. -/
def Rd (w : World) (M : Nat) : Sh → List Value → Dv → Prop
  | .int k, cs, .int n => cs = [.int k n] ∧ (Lit.int k n).wf = true
  | .bool, cs, .bool b => cs = [.bool b]
  | .str, cs, .str s => cs = [S s] ∧ s.length ≤ M
  | .agg l, cs, .agg ds => RdL w M l cs ds
  | .sl e by_, cs, .sl ds => (cs = [.slice none 0 0] ∧ ds = []) ∨ ∃ a cap, cs = [.slice (some a) ds.length cap] ∧ ds.length * by_ ≤ M ∧
      ∀ j (hj : j < ds.length), ∃ b o, a = ⟨b, o, none⟩ ∧ ∃ cs', cs'.length = e.size ∧ (∀ k u, cs'[k]? = some u → w.cell? ⟨b, o + j * e.size + k, none⟩ = some u) ∧ Rd w M e cs' ds[j]
  | _, _, _ => False
def RdL (w : World) (M : Nat) : List Sh → List Value → List Dv → Prop
  | [], cs, [] => cs = []
  | s :: l, cs, d :: ds => ∃ c1 c2, cs = c1 ++ c2 ∧ c1.length = s.size ∧ Rd w M s c1 d ∧ RdL w M l c2 ds
  | _, _, _ => False
end
/-- The shape of a type, of a struct's fields from a place on. -/
def shFs (P : Program) (f : TypeId → Option Sh) : Nat → List Field → Option (List Sh)
  | _, [] => some []
  | o, x :: l => match f x.type with
    | some s => if x.offset == o && P.cellsOf x.type == s.size then (shFs P f (o + s.size) l).map (s :: ·) else none
    | none => none
def shOf (P : Program) : Nat → TypeId → Option Sh
  | 0, _ => none
  | n + 1, t => match P.underlying t with
    | some (.int k) => some (.int k)
    | some .bool => some .bool
    | some .string => some .str
    | some (.slice e) => match shOf P n e with
      | some s => if P.cellsOf e == s.size && decide (0 < s.size) then some (.sl s (P.bytesOf e)) else none
      | none => none
    | some (.struct fs) => match shFs P (shOf P n) 0 fs.toList with
      | some l => if P.cellsOf t == Sh.sizes l then some (.agg l) else none
      | none => none
    | some (.array m e) => match shOf P n e with
      | some s => if P.cellsOf e == s.size && P.cellsOf t == m * s.size then some (.agg (List.replicate m s)) else none
      | none => none
    | _ => none

theorem cells?_get {w : World} {a : Addr} {n : Nat} {cs : List Value} (h : w.cells? 0 a n = some cs) : cs.length = n ∧ ∀ k u, cs[k]? = some u → w.cell? (a.add k) = some u := by
  unfold World.cells? at h
  rw [if_pos (Nat.zero_le _)] at h
  have hl := mapM_some_length h
  refine ⟨by simpa using hl, fun k u hk => ?_⟩
  have hkl := (List.getElem?_eq_some_iff.1 hk).1
  have := mapM_some_get h k k (by rw [List.getElem?_range (by simp at hl; omega)])
  rw [hk] at this; exact this
theorem cell_none {w : World} {b o : Nat} {p : Option Nat} {v : Value} (h : w.cell? ⟨b, o, p⟩ = some v) : p = none := by
  unfold World.cell? at h
  split at h
  · split at h
    · cases h
    · rename_i hn; simpa using hn
  · cases h

section
variable {H : Type} {enc : TypeId × Value → H} {P : Program} {w : World} {spare : Nat → Bool} {M : Nat}
theorem rdL_rep {s : Sh} : ∀ (m : Nat) (cs : List Value) (D : Nat → Dv), cs.length = m * s.size → (∀ i, i < m → Rd w M s ((cs.drop (i * s.size)).take s.size) (D i)) → RdL w M (List.replicate m s) cs ((List.range m).map D)
  | 0, cs, D, hl, _ => by
    simp at hl
    simp [RdL, hl]
  | m + 1, cs, D, hl, h => by
    rw [List.range_succ_eq_map, List.replicate_succ, List.map_cons, RdL]
    have e1 : (m + 1) * s.size = m * s.size + s.size := Nat.succ_mul m s.size
    refine ⟨cs.take s.size, cs.drop s.size, (List.take_append_drop _ _).symm, by rw [List.length_take]; omega, by have := h 0 (by omega); rwa [Nat.zero_mul, List.drop_zero] at this, ?_⟩
    rw [List.map_map]
    refine rdL_rep m (cs.drop s.size) (D ∘ Nat.succ) (by rw [List.length_drop]; omega) (fun i hi => ?_)
    have := h (i + 1) (by omega)
    rw [List.drop_drop, show s.size + i * s.size = (i + 1) * s.size by rw [Nat.succ_mul]; omega]
    exact this
theorem weightsAll_mem {e : TypeId} {z : Nat} : ∀ {l : List (DataW H × List MemPlace)} {y : DataW H × List MemPlace}, y ∈ l → z ∈ y.1.weights P e → z ∈ DataW.weightsAll P e (l.map (·.1))
  | q :: l, y, hm, hz => by
    simp only [List.map_cons, DataW.weightsAll, List.mem_append]
    rcases List.mem_cons.1 hm with rfl | hm
    · exact .inl hz
    · exact .inr (weightsAll_mem hm hz)
theorem rd_of_trod : ∀ (n : Nat) (sh : Sh) (t : TypeId) (m : Nat) (cs : List Value) (x : DataW H × List MemPlace), shOf P n t = some sh → DataW.trod enc P w 0 spare true m t cs = some x → (∀ y ∈ x.1.weights P t, y ≤ M) → cs.length = sh.size ∧ ∃ d, Rd w M sh cs d
  | 0, sh, t, m, cs, x, hs, _, _ => by cases hs
  | n + 1, sh, t, m, cs, x, hs, h, hw => by
    rw [shOf] at hs
    split at hs
    · rename_i k hu
      cases hs
      obtain ⟨v, rfl, rfl, hwf⟩ := DataW.trod_int hu h
      exact ⟨rfl, .int v, rfl, hwf⟩
    · rename_i hu
      cases hs
      obtain ⟨v, rfl, rfl⟩ := DataW.trod_bool hu h
      exact ⟨rfl, .bool v, rfl⟩
    · rename_i hu
      cases hs
      obtain ⟨v, rfl, rfl, _⟩ := DataW.trod_string hu h
      refine ⟨rfl, .str v.data.toList, rfl, ?_⟩
      exact hw _ (by simp [DataW.weights])
    · rename_i e hu
      split at hs
      · rename_i s hse
        split at hs
        · rename_i hc
          cases hs
          simp only [Bool.and_eq_true, beq_iff_eq, decide_eq_true_eq] at hc
          rcases DataW.trod_slice hu h with ⟨rfl, rfl⟩ | ⟨a, len, cap, elems, rest, m', _, rfl, rfl, _, _, _, hlen, hel, _, _⟩
          · exact ⟨rfl, .sl [], .inl ⟨rfl, rfl⟩⟩
          · refine ⟨rfl, ?_⟩
            obtain ⟨b, o, p⟩ := a
            have hp : 0 < len → p = none := by
              intro h0
              have h1 := hel 0 h0
              rw [List.getElem?_eq_getElem (by omega)] at h1
              cases hcs : w.cells? 0 ((⟨b, o, p⟩ : Addr).add (0 * P.cellsOf e)) (P.cellsOf e) with
              | none => rw [hcs] at h1; cases h1
              | some cs' =>
                obtain ⟨k1, k2⟩ := cells?_get hcs
                have hc0 : 0 < cs'.length := by omega
                have := k2 0 cs'[0] (List.getElem?_eq_getElem hc0)
                rw [Nat.zero_mul] at this
                exact cell_none this
            have each : ∀ i, ∃ d, i < len → p = none ∧ ∃ cs', cs'.length = s.size ∧ (∀ k u, cs'[k]? = some u → w.cell? ⟨b, o + i * s.size + k, none⟩ = some u) ∧ Rd w M s cs' d := by
              intro i
              by_cases hi : i < len
              · have h1 := hel i hi
                rw [List.getElem?_eq_getElem (by omega)] at h1
                cases hcs : w.cells? 0 ((⟨b, o, p⟩ : Addr).add (i * P.cellsOf e)) (P.cellsOf e) with
                | none => rw [hcs] at h1; cases h1
                | some cs' =>
                  rw [hcs, Option.bind_some] at h1
                  obtain ⟨k1, k2⟩ := cells?_get hcs
                  have hwy : ∀ z ∈ (elems[i]'(by omega)).1.weights P e, z ≤ M := by
                    intro z hz
                    refine hw z ?_
                    simp only [DataW.weights, hu, List.mem_cons, List.mem_append]
                    exact .inr (.inl (weightsAll_mem (List.getElem_mem _) hz))
                  obtain ⟨k3, d, k4⟩ := rd_of_trod n s e m' cs' _ hse h1 hwy
                  have hp := hp (by omega)
                  subst hp
                  refine ⟨d, fun _ => ⟨rfl, cs', k3, fun k u hk => ?_, k4⟩⟩
                  have := k2 k u hk
                  rw [add_none, add_none, hc.1] at this
                  exact this
              · exact ⟨default, fun h => absurd h hi⟩
            obtain ⟨D, hD⟩ := Classical.axiomOfChoice each
            refine ⟨.sl ((List.range len).map D), .inr ⟨⟨b, o, p⟩, cap, by simp, ?_, fun j hj => ?_⟩⟩
            · have := hw ((elems.length + rest.length) * P.bytesOf e) (by simp [DataW.weights, hu])
              simp only [List.length_map, List.length_range]
              refine Nat.le_trans (Nat.mul_le_mul_right _ ?_) this
              omega
            · simp only [List.length_map, List.length_range] at hj
              obtain ⟨h1, h2⟩ := hD j hj
              refine ⟨b, o, by rw [h1], ?_⟩
              simpa using h2
        · cases hs
      · cases hs
    · rename_i fs hu
      split at hs
      · rename_i l hl
        split at hs
        · rename_i hc
          cases hs
          simp only [beq_iff_eq] at hc
          obtain ⟨xs, m', _, rfl, hcl, hxl, hx⟩ := DataW.trod_struct hu h
          refine ⟨hcl.trans hc, ?_⟩
          have key : ∀ (gs : List Field) (l : List Sh) (i o : Nat), (∀ j f, gs[j]? = some f → fs[i + j]? = some f) → shFs P (shOf P n) o gs = some l → cs.length = o + Sh.sizes l → (∀ j, j < gs.length → i + j < xs.length) → ∃ ds, RdL w M l (cs.drop o) ds := by
            intro gs
            induction gs with
            | nil =>
              intro l i o _ hl hlen _
              cases hl
              exact ⟨[], by simp [RdL, Sh.sizes] at *; omega⟩
            | cons f gs ih =>
              intro l i o hg hl hlen hix
              rw [shFs] at hl
              split at hl
              · rename_i s hsf
                split at hl
                · rename_i hc
                  simp only [Bool.and_eq_true, beq_iff_eq] at hc
                  cases hr : shFs P (shOf P n) (o + s.size) gs with
                  | none => rw [hr] at hl; cases hl
                  | some l' =>
                    rw [hr] at hl
                    cases hl
                    simp only [Sh.sizes] at hlen
                    have hf := hg 0 f rfl
                    rw [Nat.add_zero] at hf
                    have h1 := hx i f hf
                    have hil : i < xs.length := by have := hix 0 (by simp); omega
                    rw [List.getElem?_eq_getElem hil, hc.1, hc.2] at h1
                    have hwy : ∀ z ∈ (xs[i]).1.weights P f.type, z ≤ M := by
                      intro z hz
                      refine hw z ?_
                      simp only [DataW.weights, hu]
                      exact DataW.weights_mem_each (j := i) (t := f.type) (d := (xs[i]).1) (by rw [List.getElem?_map, Array.getElem?_toList, hf]; rfl) (by rw [List.getElem?_map, List.getElem?_eq_getElem hil]; rfl) z hz
                    obtain ⟨k1, d, k2⟩ := rd_of_trod n s f.type m' _ _ hsf h1 hwy
                    obtain ⟨ds, hds⟩ := ih l' (i + 1) (o + s.size) (fun j f' hj => by have := hg (j + 1) f' (by simpa using hj); rw [show i + 1 + j = i + (j + 1) by omega]; exact this) hr (by omega) (fun j hj => by have := hix (j + 1) (by simpa using hj); omega)
                    refine ⟨d :: ds, ?_⟩
                    rw [RdL]
                    exact ⟨_, _, (List.take_append_drop s.size (cs.drop o)).symm, k1, k2, by rw [List.drop_drop]; exact hds⟩
                · cases hl
              · cases hl
          obtain ⟨ds, hds⟩ := key fs.toList l 0 0 (fun j f hj => by simpa using hj) hl (by omega) (fun j hj => by simp at hj; omega)
          exact ⟨.agg ds, by simpa [Rd] using hds⟩
        · cases hs
      · cases hs
    · rename_i k e hu
      split at hs
      · rename_i s hse
        split at hs
        · rename_i hc
          cases hs
          simp only [Bool.and_eq_true, beq_iff_eq] at hc
          obtain ⟨xs, m', _, rfl, hcl, hxl, hx⟩ := DataW.trod_array hu h
          have hlen : cs.length = k * s.size := hcl.trans hc.2
          have hsz : ∀ k, Sh.sizes (List.replicate k s) = k * s.size := by
            intro k
            induction k with
            | zero => simp [Sh.sizes]
            | succ k ih => rw [List.replicate_succ, Sh.sizes, ih, Nat.succ_mul]; omega
          refine ⟨by rw [Sh.size, hsz]; exact hlen, ?_⟩
          have each : ∀ i, ∃ d, i < k → Rd w M s ((cs.drop (i * s.size)).take s.size) d := by
            intro i
            by_cases hi : i < k
            · have h1 := hx i hi
              rw [List.getElem?_eq_getElem (by omega), hc.1] at h1
              obtain ⟨d, hd⟩ := (rd_of_trod n s e m' _ _ hse h1 (by
                intro z hz
                refine hw z ?_
                simp only [DataW.weights, hu]
                exact weightsAll_mem (List.getElem_mem _) hz)).2
              exact ⟨d, fun _ => hd⟩
            · exact ⟨default, fun h => absurd h hi⟩
          obtain ⟨D, hD⟩ := Classical.axiomOfChoice each
          exact ⟨.agg ((List.range k).map D), by rw [Rd]; exact rdL_rep k cs D hlen hD⟩
        · cases hs
      · cases hs
    · cases hs
end
end Go.Sx
