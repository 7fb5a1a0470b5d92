/-
  The calculus Sx, part 15: maps of the call's own: made, looked up, written. Keys: whole numbers, texts, structs of such.
-/
import Derived.Test.YteeiccjglmehcaaGreatSx14
import Derived.MapKept
namespace Go.Sx
open Go

/-- Keys of a kind: 'enc' writes them; equal ones are found, others not. -/
structure KeyOk (P : Program) (kt : TypeId) {K : Type} [DecidableEq K] (enc : K → Value) : Prop where
  find : ∀ (k : K) (es : List MapEntry) (ks : List K), es.map (·.key) = ks.map enc → ∀ w, (Instr.findKey kt (enc k) es).run P w = .ok (if k ∈ ks then (es[ks.idxOf k]?).map fun e => (ks.idxOf k, e.val) else none) w
  check : ∀ (b : Bool) (k : K) w, (Instr.checkKey b 10000 kt (enc k)).run P w = .ok () w
  same : ∀ k : K, Instr.sameBits 10000 (enc k) (enc k) = true

def encKI (n : Int) : Value := .int .i64 n
def encKS (s : List UInt8) : Value := S s

section
variable {P : Program} {kt : TypeId}
theorem findNow_some {K : Type} [DecidableEq K] {enc : K → Value} {d : TypeDesc} (h : ∀ a b : K, Instr.sameNow d (enc a) (enc b) = some (decide (a = b))) (k : K) : ∀ (es : List MapEntry) (ks : List K) (i : Nat), es.map (·.key) = ks.map enc →
    Instr.findNow d (enc k) es i = some (if k ∈ ks then (es[ks.idxOf k]?).map fun e => (i + ks.idxOf k, e.val) else none)
  | [], [], i, _ => by simp [Instr.findNow]
  | e :: es, x :: ks, i, he => by
    simp only [List.map_cons, List.cons.injEq] at he
    obtain ⟨h1, h2⟩ := he
    rw [Instr.findNow, h1, h]
    by_cases hk : k = x
    · subst hk
      simp
    · rw [decide_eq_false hk]
      dsimp only
      rw [findNow_some h k es ks (i + 1) h2]
      have hx : (x == k) = false := by simp; exact fun e => hk e.symm
      simp only [List.mem_cons, hk, false_or, List.idxOf_cons, hx, cond_false, List.getElem?_cons_succ]
      have hadd : ∀ m, i + 1 + m = i + (m + 1) := fun m => by omega
      simp only [hadd]
  | [], x :: ks, i, he => by simp at he
  | e :: es, [], i, he => by simp at he
theorem keyOk_of {K : Type} [DecidableEq K] {enc : K → Value} {d : TypeDesc} (hd : P.underlying kt = some d) (h : ∀ a b : K, Instr.sameNow d (enc a) (enc b) = some (decide (a = b))) (hc : ∀ (b : Bool) (k : K) w, (Instr.checkKey b 10000 kt (enc k)).run P w = .ok () w)
    (hs : ∀ k : K, Instr.sameBits 10000 (enc k) (enc k) = true) : KeyOk P kt enc where
  find k es ks he w := by
    simp only [Instr.findKey, Sem.run_bind, run_underlying hd, Result.andThen_ok, findNow_some h k es ks 0 he]
    simp
  check := hc
  same := hs
theorem checkKey_int {n : Nat} {b : Bool} {k : Int} {w : World} (hd : P.underlying kt = some (.int .i64)) : (Instr.checkKey b (n + 1) kt (.int .i64 k)).run P w = .ok () w := by
  simp [Instr.checkKey, run_underlying hd]
theorem checkKey_str {n : Nat} {b : Bool} {k : ByteArray} {w : World} (hd : P.underlying kt = some .string) : (Instr.checkKey b (n + 1) kt (.string k)).run P w = .ok () w := by
  simp [Instr.checkKey, run_underlying hd]
theorem keyI (hd : P.underlying kt = some (.int .i64)) : KeyOk P kt encKI :=
  keyOk_of hd (fun a b => by show some (a == b) = _; congr 1) (fun b k w => checkKey_int (n := 9999) hd) (fun k => by show (_ && _) = true; simp)
theorem keyS (hd : P.underlying kt = some .string) : KeyOk P kt encKS :=
  keyOk_of hd (fun a b => by show some ((⟨a.toArray⟩ : ByteArray) == ⟨b.toArray⟩) = _; rw [beq_toListBytes, toList_S, toList_S]; congr 1; rw [Bool.eq_iff_iff]; simp) (fun b k w => checkKey_str (n := 9999) hd) (fun k => by show ((⟨k.toArray⟩ : ByteArray) == ⟨k.toArray⟩) = true; rw [beq_toListBytes]; exact beq_self_eq_true _)
/-- Structs as keys: each compared by asking. -/
theorem findAsking_some {K : Type} [DecidableEq K] {enc : K → Value} (h : ∀ (a b : K) w, (Op.equal kt (enc a) (enc b)).run P w = .ok (decide (a = b)) w) (k : K) (w : World) : ∀ (es : List MapEntry) (ks : List K) (i : Nat), es.map (·.key) = ks.map enc →
    (Instr.findAsking kt (enc k) es i).run P w = .ok (if k ∈ ks then (es[ks.idxOf k]?).map fun e => (i + ks.idxOf k, e.val) else none) w
  | [], [], i, _ => by simp [Instr.findAsking]
  | e :: es, x :: ks, i, he => by
    simp only [List.map_cons, List.cons.injEq] at he
    obtain ⟨h1, h2⟩ := he
    rw [Instr.findAsking, Sem.run_bind, h1, h, Result.andThen_ok]
    by_cases hk : k = x
    · subst hk
      simp
    · rw [decide_eq_false hk]
      simp only [Bool.false_eq_true, if_false]
      rw [findAsking_some h k w es ks (i + 1) h2]
      have hx : (x == k) = false := by simp; exact fun e => hk e.symm
      simp only [List.mem_cons, hk, false_or, List.idxOf_cons, hx, cond_false, List.getElem?_cons_succ]
      have hadd : ∀ m, i + 1 + m = i + (m + 1) := fun m => by omega
      simp only [hadd]
  | [], x :: ks, i, he => by simp at he
  | e :: es, [], i, he => by simp at he
theorem keyOk_ask {K : Type} [DecidableEq K] {enc : K → Value} {d : TypeDesc} (hd : P.underlying kt = some d) (hn : ∀ a b : K, Instr.sameNow d (enc a) (enc b) = none) (h : ∀ (a b : K) w, (Op.equal kt (enc a) (enc b)).run P w = .ok (decide (a = b)) w) (hc : ∀ (b : Bool) (k : K) w, (Instr.checkKey b 10000 kt (enc k)).run P w = .ok () w)
    (hs : ∀ k : K, Instr.sameBits 10000 (enc k) (enc k) = true) : KeyOk P kt enc where
  find k es ks he w := by
    cases es with
    | nil =>
      cases ks with
      | nil => simp [Instr.findKey, run_underlying hd, Instr.findNow]
      | cons => simp at he
    | cons e es =>
      cases ks with
      | nil => simp at he
      | cons x ks =>
        have hno : Instr.findNow d (enc k) (e :: es) 0 = none := by
          simp only [List.map_cons, List.cons.injEq] at he
          rw [Instr.findNow, he.1, hn]
        simp only [Instr.findKey, Sem.run_bind, run_underlying hd, Result.andThen_ok, hno]
        rw [findAsking_some h k w (e :: es) (x :: ks) 0 he]
        simp
  check := hc
  same := hs
theorem sameBits_one {ds : List TypeDesc} {xs ys : List Value} {b : Bool} (h : EqR ds xs ys b) (n : Nat) : (xs.zip xs).all (fun (x, y) => Instr.sameBits n x y) = true := by
  induction h with
  | nil => rfl
  | int h ih => simp only [List.zip_cons_cons, List.all_cons, ih, Bool.and_true]; cases n <;> simp [Instr.sameBits]
  | @str a _ _ _ _ _ h ih =>
    simp only [List.zip_cons_cons, List.all_cons, ih, Bool.and_true]
    have : ((⟨a.toArray⟩ : ByteArray) == ⟨a.toArray⟩) = true := by rw [beq_toListBytes]; exact beq_self_eq_true _
    cases n <;> simpa [Instr.sameBits, S] using this
  | bool h ih => simp only [List.zip_cons_cons, List.all_cons, ih, Bool.and_true]; cases n <;> simp [Instr.sameBits]
def ckFor (n : Nat) (b : Bool) (X : List Value) (fs : List Field) : Sem PUnit := do
  for f in fs do
    if f.name ≠ "_" then Instr.checkKey b (n + 1) f.type (← part f.type X.toArray f.offset)
theorem checkKey_fields (n : Nat) (b : Bool) (w : World) : ∀ (fs : List Field) (ds : List TypeDesc) (i : Nat) (X xs ys : List Value) (r : Bool), fsOk P i fs = some ds → EqR ds xs ys r → X.drop i = xs →
    (ckFor n b X fs).run P w = .ok PUnit.unit w
  | [], ds, i, X, xs, ys, r, h, hr, hx => by simp [ckFor]
  | f :: fs, ds, i, X, xs, ys, r, h, hr, hx => by
    rw [fsOk] at h
    split at h
    · rename_i hc
      simp only [Bool.and_eq_true, bne_iff_ne, ne_eq, beq_iff_eq] at hc
      obtain ⟨⟨h1, h2⟩, h3⟩ := hc
      split at h
      · rename_i d0 ds0 hu hf
        cases h
        have step : ∀ (a : Value) (xs' ys' : List Value) (b' : Bool), xs = a :: xs' → EqR ds0 xs' ys' b' → (Instr.checkKey b (n + 1) f.type a).run P w = .ok () w →
            (ckFor n b X (f :: fs)).run P w = .ok PUnit.unit w := by
          intro a xs' ys' b' e1 hr' hk
          subst e1
          have hxi : X.toArray[f.offset]? = some a := by
            have := congrArg (·[0]?) hx
            simp only [List.getElem?_drop, List.getElem?_cons_zero, Nat.add_zero] at this
            rw [h3]; simpa using this
          have ih := checkKey_fields n b w fs ds0 (i + 1) X xs' ys' b' hf hr' (by rw [← List.drop_drop, hx]; rfl)
          unfold ckFor at ih ⊢
          simp only [List.forIn_cons, ne_eq, h1, not_false_eq_true, if_true, Sem.run_bind, run_part_plain w h2 hxi, Result.andThen_ok, hk, Sem.run_pure]
          rw [Sem.run_bind] at ih
          exact ih
        cases hr with
        | int h' => exact step _ _ _ _ rfl h' (by simp [Instr.checkKey, run_underlying hu])
        | str h' => exact step _ _ _ _ rfl h' (by simp [Instr.checkKey, run_underlying hu])
        | bool h' => exact step _ _ _ _ rfl h' (by simp [Instr.checkKey, run_underlying hu])
      · cases h
    · cases h
theorem keyStruct {K : Type} [DecidableEq K] {f : K → List Value} {ds : List TypeDesc} (h : eqFs P kt = some ds) (he : ∀ a b, EqR ds (f a) (f b) (decide (a = b))) : KeyOk P kt (fun k => .agg (f k).toArray) := by
  have h0 := h
  unfold eqFs at h0
  split at h0
  · rename_i fs hu
    split at h0
    · cases h0
    · refine keyOk_ask hu (fun a b => rfl) (fun a b w => (run_eqStruct h (he a b) w).1) (fun b k w => ?_) (fun k => ?_)
      · have := checkKey_fields (P := P) 9998 b w fs.toList ds 0 (f k) (f k) (f k) _ h0 (he k k) rfl
        rw [show (10000 : Nat) = 9999 + 1 from rfl]
        unfold Instr.checkKey
        simp only [Sem.run_bind, run_underlying hu, Result.andThen_ok]
        rw [← Array.forIn_toList]
        unfold ckFor at this
        rw [Sem.run_bind] at this
        exact this
      · have := sameBits_one (he k k) 9999
        show (_ && _) = true
        simpa using this
  · cases h0
end

/-! ### The chunk -/
def mapC {K : Type} (v : Value) (enc : K → Value) (es : List (K × Value)) : Chunk where
  holds w D := ∃ r arr clock, v = .map (some r) ∧ D r ∧ w.heap[r]? = some (.map arr clock) ∧ arr.toList.map (fun e => (e.key, e.val)) = es.map fun x => (enc x.1, x.2)
  loc w w' D ho hb := fun ⟨r, arr, clock, h1, h2, h3, h4⟩ => ⟨r, arr, clock, h1, h2, by rw [hb r h2]; exact h3, h4⟩
class AtM (cs : List Chunk) (v : Value) {K : outParam Type} (enc : outParam (K → Value)) (es : outParam (List (K × Value))) : Prop where
  mem : ∃ r, Take1 cs (mapC v enc es) r
section
variable {K : Type} {enc : K → Value} {es es' : List (K × Value)} {v : Value} {c : Chunk} {cs cs' : List Chunk}
instance atMS [h : AtM cs v enc es] : AtM (c :: cs) v enc es := ⟨let ⟨_, k⟩ := h.mem; ⟨_, tS k⟩⟩
instance atM0 : AtM (mapC v enc es :: cs) v enc es := ⟨⟨_, t0⟩⟩
end
class UpM (cs : List Chunk) (v : Value) {K : Type} (enc : K → Value) (es es' : List (K × Value)) (cs' : outParam (List Chunk)) : Prop where
  mem : ∃ r, Take1 cs (mapC v enc es) r ∧ Take1 cs' (mapC v enc es') r
section
variable {K : Type} {enc : K → Value} {es es' : List (K × Value)} {v : Value} {c : Chunk} {cs cs' : List Chunk}
instance upMS [h : UpM cs v enc es es' cs'] : UpM (c :: cs) v enc es es' (c :: cs') := ⟨let ⟨_, k, k'⟩ := h.mem; ⟨_, tS k, tS k'⟩⟩
instance upM0 : UpM (mapC v enc es :: cs) v enc es es' (mapC v enc es' :: cs) := ⟨⟨_, t0, t0⟩⟩
/-- A key's value from now on. -/
def setM {K : Type} [DecidableEq K] : List (K × Value) → K → Value → List (K × Value)
  | [], k, x => [(k, x)]
  | (j, y) :: es, k, x => if k = j then (j, x) :: es else (j, y) :: setM es k x
def getM {K : Type} [DecidableEq K] : List (K × Value) → K → Option Value
  | [], _ => none
  | (j, y) :: es, k => if k = j then some y else getM es k
end
/-- The parts of a map type. -/
def mapI (P : Program) (t : TypeId) : Option (TypeId × TypeId) := match P.underlying t with | some (.map k e) => some (k, e) | _ => none
theorem mapI.run {P : Program} {t k e : TypeId} (h : mapI P t = some (k, e)) : P.underlying t = some (.map k e) := by
  unfold mapI at h
  split at h
  · rename_i hu; cases h; exact hu
  · cases h

section
variable {P : Program} {N : Nat} {Q : Exit → Act → World → Prop} {L : List (Nat × Value)} {cs cs' : List Chunk} {ops : Array Oper} {l : List Oper}
variable {d : Nat} {ty : TypeId} {pos : String} {af : Array Edge} {g : Option (Nat × Bool)}
variable {K : Type} [DecidableEq K] {enc : K → Value} {es : List (K × Value)} {v : Value}

omit [DecidableEq K] in
/-- 'map[K]V{}'. -/
theorem XL.mkM {t : TypeId} (enc : K → Value) (hc : chk ops L N d g = true) (k : ∀ v, OneV v → XL P N ops Q l ((d, v) :: L) (mapC v enc [] :: cs)) : XL P N ops Q (⟨some d, .makeMap t none, ty, pos, af, g⟩ :: l) L cs :=
  XL.stepE (α := { v : Value // OneV v }) (v := fun z => z.1) (cx := fun z => mapC z.1 enc ([] : List (K × Value)) :: cs) rfl hc (fun a w hm hs => by
    refine ⟨⟨.map (some w.heap.size), ⟨rfl⟩⟩, w.alloc (.map #[] 0), ?_, ?_⟩
    · rfl
    · refine Sat.imp (c := cell w.heap.size (.map #[] 0)) (xs := [mapC (.map (some w.heap.size)) enc []]) (fun D hD => ?_) (Sat.new _ hs)
      exact SatD.one.2 ⟨D, fun _ h => h, _, _, _, rfl, hD.1, hD.2, rfl⟩) (fun z => k z.1 z.2)
omit [DecidableEq K] in
theorem map_keys {arr : Array MapEntry} (h : arr.toList.map (fun e => (e.key, e.val)) = es.map fun x => (enc x.1, x.2)) : arr.toList.map (·.key) = (es.map (·.1)).map enc := by
  have := congrArg (List.map Prod.fst) h
  simpa [List.map_map, Function.comp_def] using this
theorem getM_eq : ∀ (arr : List MapEntry) (es : List (K × Value)) (k : K), arr.map (fun e => (e.key, e.val)) = es.map (fun x => (enc x.1, x.2)) →
    ((if k ∈ es.map (·.1) then (arr[(es.map (·.1)).idxOf k]?).map fun e => ((es.map (·.1)).idxOf k, e.val) else none).map fun x => x.2) = getM es k
  | [], [], k, _ => by simp [getM]
  | e :: arr, (j, y) :: es, k, h => by
    simp only [List.map_cons, List.cons.injEq, Prod.mk.injEq] at h
    obtain ⟨⟨h1, h2⟩, h3⟩ := h
    have ih := getM_eq arr es k h3
    by_cases hk : k = j
    · subst hk; simp [getM, h2]
    · have hx : (j == k) = false := by simp; exact fun e => hk e.symm
      simp only [List.map_cons, List.mem_cons, hk, false_or, List.idxOf_cons, hx, cond_false, List.getElem?_cons_succ, getM, if_false]
      rw [← ih]
      split
      · simp [Option.map_map, Function.comp_def]
      · rfl
  | [], (j, y) :: es, k, h => by simp at h
  | e :: arr, [], k, h => by simp at h
theorem run_find {arr : Array MapEntry} {kt : TypeId} (hk : KeyOk P kt enc) (h : arr.toList.map (fun e => (e.key, e.val)) = es.map fun x => (enc x.1, x.2)) (k : K) (w : World) :
    ∃ r, (Instr.findKey kt (enc k) arr.toList).run P w = .ok r w ∧ r.map (·.2) = getM es k := by
  refine ⟨_, hk.find k arr.toList (es.map (·.1)) (map_keys h) w, ?_⟩
  exact getM_eq arr.toList es k h

def zeroV (P : Program) (e : TypeId) : Option Value := (P.info? e).bind (·.zero)
theorem zeroV.run {e : TypeId} {z : Value} (h : zeroV P e = some z) (w : World) : (zeroValue e).run P w = .ok z w := by
  unfold zeroV at h
  cases hi : P.info? e with
  | none => rw [hi] at h; cases h
  | some i =>
    rw [hi, Option.bind_some] at h
    simp [zeroValue, typeInfo, hi, h]
theorem run_lookup {t kt et : TypeId} {k : K} {zv : Value} {ok : Bool} (hm' : mapI P t = some (kt, et)) (hk : KeyOk P kt enc) (hz : zeroV P et = some zv) {r : List Chunk} {w : World} (hs : Sat (mapC v enc es :: r) w) :
    (Instr.lookup t v (enc k) ok).run P w = .ok (if ok then .tuple #[(getM es k).getD zv, .bool (getM es k).isSome] else (getM es k).getD zv) w := by
  obtain ⟨D1, D2, _, _, _, ⟨rr, arr, clock, rfl, _, h3, h4⟩, _⟩ := hs
  obtain ⟨f, hf, hg⟩ := run_find hk h4 k w
  have hgo : (getObj rr).run P w = .ok (.map arr clock) w := by simp [getObj, Sem.run, h3]
  simp only [Instr.lookup, Sem.run_bind, run_underlying (mapI.run hm'), Result.andThen_ok, hgo, Sem.run_pure, hk.check, hf]
  cases f with
  | none =>
    have hg' : getM es k = none := by rw [← hg]; rfl
    simp only [Sem.run_bind, zeroV.run hz, Result.andThen_ok, Sem.run_pure, hg']
    cases ok <;> simp
  | some y =>
    have hg' : getM es k = some y.2 := by rw [← hg]; rfl
    simp only [Sem.run_pure, Result.andThen_ok, hg']
    cases ok <;> simp
/-- 'm[k]'. -/
theorem XL.lkV {t kt et : TypeId} {x y : Operand} {zv : Value} (k : K) (hm' : mapI P t = some (kt, et)) (hk : KeyOk P kt enc) (hz : zeroV P et = some zv) (hx : ev L x = some v) [hv : AtM cs v enc es] (hy : ev L y = some (enc k))
    (hc : chk ops L N d g = true) (kk : XL P N ops Q l ((d, (getM es k).getD zv) :: L) cs) : XL P N ops Q (⟨some d, .lookup t x y false, ty, pos, af, g⟩ :: l) L cs :=
  XL.stepV rfl hc (fun a w hm hs => ⟨w, by
    obtain ⟨r, hr⟩ := hv.mem
    have := run_lookup (ok := false) (k := k) hm' hk hz (hs.perm hr)
    simp only [execOp, hm.eval hx, hm.eval hy]
    rw [Sem.run_bind, this]; rfl, hs⟩) kk
/-- 'm[k]' with whether it is there. -/
theorem XL.lkO {t kt et : TypeId} {x y : Operand} {zv : Value} (k : K) (hm' : mapI P t = some (kt, et)) (hk : KeyOk P kt enc) (hz : zeroV P et = some zv) (hx : ev L x = some v) [hv : AtM cs v enc es] (hy : ev L y = some (enc k))
    (hc : chk ops L N d g = true) (kk : XL P N ops Q l ((d, .tuple #[(getM es k).getD zv, .bool (getM es k).isSome]) :: L) cs) : XL P N ops Q (⟨some d, .lookup t x y true, ty, pos, af, g⟩ :: l) L cs :=
  XL.stepV rfl hc (fun a w hm hs => ⟨w, by
    obtain ⟨r, hr⟩ := hv.mem
    have := run_lookup (ok := true) (k := k) hm' hk hz (hs.perm hr)
    simp only [execOp, hm.eval hx, hm.eval hy]
    rw [Sem.run_bind, this]; rfl, hs⟩) kk
theorem set_entries : ∀ (arr : List MapEntry) (es : List (K × Value)) (k : K) (x : Value), arr.map (fun e => (e.key, e.val)) = es.map (fun x => (enc x.1, x.2)) → k ∈ es.map (·.1) →
    (arr.modify ((es.map (·.1)).idxOf k) fun e => { e with key := enc k, val := x }).map (fun e => (e.key, e.val)) = (setM es k x).map fun x => (enc x.1, x.2)
  | e :: arr, (j, y) :: es, k, x, h, hm => by
    simp only [List.map_cons, List.cons.injEq, Prod.mk.injEq] at h
    obtain ⟨⟨h1, h2⟩, h3⟩ := h
    by_cases hk : k = j
    · subst hk; simp [setM, h3]
    · have hx : (j == k) = false := by simp; exact fun e => hk e.symm
      simp only [List.map_cons, List.mem_cons, hk, false_or] at hm
      simp only [List.map_cons, List.idxOf_cons, hx, cond_false, List.modify_succ_cons, setM, hk, if_false, h1, h2]
      rw [set_entries arr es k x h3 hm]
  | [], (j, y) :: es, k, x, h, _ => by simp at h
  | _, [], k, x, _, hm => by simp at hm
theorem push_entries : ∀ (es : List (K × Value)) (k : K) (x : Value), k ∉ es.map (·.1) → setM es k x = es ++ [(k, x)]
  | [], k, x, _ => rfl
  | (j, y) :: es, k, x, h => by
    simp only [List.map_cons, List.mem_cons, not_or] at h
    rw [setM, if_neg h.1, push_entries es k x h.2]; rfl
/-- 'm[k] = x'. -/
theorem XL.muM {t kt et : TypeId} {m x y : Operand} {u : Value} (k : K) (hm' : mapI P t = some (kt, et)) (hk : KeyOk P kt enc) (hx : ev L m = some v) [hv : AtM cs v enc es] (hy : ev L x = some (enc k)) (hz : ev L y = some u) [hu : UpM cs v enc es (setM es k u) cs']
    (hc : wOk ops L g = true) (kk : XL P N ops Q l L cs') : XL P N ops Q (⟨none, .mapUpdate t m x y, ty, pos, af, g⟩ :: l) L cs :=
  XL.stepU rfl hc (fun a w hm hs => by
    obtain ⟨r, h1, h2⟩ := hu.mem
    have hs1 := hs.perm h1
    obtain ⟨D1, D2, _, _, _, ⟨rr, arr, clock, rfl, hD, h3, h4⟩, _⟩ := id hs1
    have hf := hk.find k arr.toList (es.map (·.1)) (map_keys h4) w
    have hgo : (getObj rr).run P w = .ok (.map arr clock) w := by simp [getObj, Sem.run, h3]
    have hrl : rr < w.heap.size := (Array.getElem?_eq_some_iff.1 h3).1
    have fin : ∀ (o : Obj) (arr' : Array MapEntry) (clock' : Nat), o = .map arr' clock' → arr'.toList.map (fun e => (e.key, e.val)) = (setM es k u).map (fun x => (enc x.1, x.2)) → Sat cs' { w with heap := w.heap.setIfInBounds rr o } := by
      intro o arr' clock' ho hes
      subst ho
      refine Sat.perm h2.symm (Sat.upd hs1 ⟨rfl, rfl, rfl⟩ (by simp) fun D hD' hl => ?_)
      obtain ⟨rr', arr2, clock2, hv', hDr, h3', _⟩ := hD'
      obtain rfl : rr = rr' := by simpa using hv'
      refine ⟨fun b hb hn => ?_, fun b => b = rr, fun b hb => ?_, rr, arr', clock', rfl, rfl, ?_, hes⟩
      · rw [Array.getElem?_setIfInBounds, if_neg]
        intro e; exact hn (e ▸ hDr)
      · subst hb; exact ⟨by simpa using hrl, .inl hDr⟩
      · rw [Array.getElem?_setIfInBounds, if_pos rfl, if_pos hrl]
    by_cases hin : k ∈ es.map (·.1)
    · rw [if_pos hin] at hf
      have hlt : (es.map (·.1)).idxOf k < arr.toList.length := by
        have e1 := congrArg List.length (map_keys h4)
        simp only [List.length_map] at e1
        have := List.idxOf_lt_length_of_mem hin
        simp only [List.length_map] at this
        omega
      rw [List.getElem?_eq_getElem hlt] at hf
      have hkey : (arr.toList[(es.map (·.1)).idxOf k]).key = enc k := by
        have e1 := congrArg (·[(es.map (·.1)).idxOf k]?) (map_keys h4)
        simp only [List.getElem?_map, List.getElem?_eq_getElem hlt, Option.map_some] at e1
        have hlt2 := List.idxOf_lt_length_of_mem hin
        have e2 : (es.map (·.1))[(es.map (·.1)).idxOf k]? = some k := by rw [List.getElem?_eq_getElem hlt2, List.getElem_idxOf hlt2]
        rw [List.getElem?_map] at e2
        cases hq : es[(es.map (·.1)).idxOf k]? with
        | none => rw [hq] at e2; cases e2
        | some q => rw [hq] at e1 e2; simp only [Option.map_some, Option.some.injEq] at e1 e2; rw [e1, e2]
      refine ⟨{ w with heap := w.heap.setIfInBounds rr (.map (arr.modify ((es.map (·.1)).idxOf k) fun e => { e with key := enc k, val := u }) clock) }, ?_, fin _ _ _ rfl ?_⟩
      · simp only [execOp, hm.eval hx, hm.eval hy, hm.eval hz, Instr.mapUpdate, Sem.run_bind, run_underlying (mapI.run hm'), Result.andThen_ok, hgo, hk.check, hf, Option.map_some]
        have hold : ((arr[(es.map (·.1)).idxOf k]?).map (·.key)).getD (enc k) = enc k := by
          rw [← Array.getElem?_toList, List.getElem?_eq_getElem hlt]; exact hkey
        rw [hold]
        simp only [Instr.keyThatStays, hk.same, if_true, Sem.run_pure, Result.andThen_ok]
        rw [show (setObj rr (.map (arr.modify ((es.map (·.1)).idxOf k) fun e => { e with key := enc k, val := u }) clock)).run P w = .ok () { w with heap := w.heap.setIfInBounds rr (.map (arr.modify ((es.map (·.1)).idxOf k) fun e => { e with key := enc k, val := u }) clock) } from by simp [setObj, Sem.run, h3]]
        rfl
      · rw [Array.toList_modify]; exact set_entries arr.toList es k u h4 hin
    · rw [if_neg hin] at hf
      refine ⟨{ w with heap := w.heap.setIfInBounds rr (.map (arr.push { key := enc k, val := u, born := clock }) (clock + 1)) }, ?_, fin _ _ _ rfl ?_⟩
      · simp only [execOp, hm.eval hx, hm.eval hy, hm.eval hz, Instr.mapUpdate, Sem.run_bind, run_underlying (mapI.run hm'), Result.andThen_ok, hgo, hk.check, hf]
        rw [show (setObj rr (.map (arr.push { key := enc k, val := u, born := clock }) (clock + 1))).run P w = .ok () { w with heap := w.heap.setIfInBounds rr (.map (arr.push { key := enc k, val := u, born := clock }) (clock + 1)) } from by simp [setObj, Sem.run, h3]]
        rfl
      · rw [push_entries es k u hin]; simp [h4]) kk
end
end Go.Sx
